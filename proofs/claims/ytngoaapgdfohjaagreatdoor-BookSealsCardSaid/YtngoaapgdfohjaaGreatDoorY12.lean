/- Own text. -/
import Derived.Test.YtngoaapgdfohjaaGreatDoorY8
import Derived.Lib.SlBytesConst
set_option linter.unusedVariables false
set_option linter.unusedSimpArgs false
namespace Go.Proofs.YtngoaapgdfohjaaGreatDoor.X
open Go
theorem dcg {p q : Prop} (k : q) (h : Hold q → p := by (intro k; (repeat (apply DC.cons; (focus (first | (first | (apply p_pop; exact rfl; exact rfl) | (apply p_ld; exact rfl; exact rfl; exact rfl; (focus ((repeat (first | exact .here .here | exact .here (.there .here) | exact .here (.there (.there .here)) | apply InM.there)); done)); exact rfl) | (apply p_ldA; exact rfl; exact rfl; exact rfl; (focus ((repeat (first | exact .here .here | exact .here (.there .here) | exact .here (.there (.there .here)) | apply InM.there)); done)); exact rfl) | (apply p_ldRi; exact rfl; exact rfl; exact rfl; (focus ((repeat (first | exact .here .here | exact .here (.there .here) | exact .here (.there (.there .here)) | apply InM.there)); done)); omega) | (apply p_ldRx; exact rfl; exact rfl; exact rfl; (focus ((repeat (first | exact .here .here | exact .here (.there .here) | exact .here (.there (.there .here)) | apply InM.there)); done)); omega) | (apply p_ldRA; exact rfl; exact rfl; exact rfl; (focus ((repeat (first | exact .here .here | exact .here (.there .here) | exact .here (.there (.there .here)) | apply InM.there)); done)); (first | (simp only [List.length_map, List.length_replicate, List.length_set, List.length_append, List.length_cons, List.length_nil]; first | done | omega) | omega)) | (apply p_ldRg; exact rfl; exact rfl; exact rfl; (focus ((repeat (first | exact .here .here | exact .here (.there .here) | exact .here (.there (.there .here)) | apply InM.there)); done)); (focus ((repeat (first | exact GetN.here | apply GetN.there)); done))) | (apply p_ldRQ; exact rfl; exact rfl; exact rfl; (focus ((repeat (first | exact .here .here | exact .here (.there .here) | exact .here (.there (.there .here)) | apply InM.there)); done)); (focus ((repeat (first | exact DrpN.zero | apply DrpN.succ)); done)); (focus ((repeat (first | exact TakN.nil | apply TakN.cons)); done))) | (apply p_ldG; exact rfl; exact rfl; exact rfl; (focus with_reducible assumption); (focus infer_instance); omega) | (apply p_ldKi; exact rfl; exact rfl; exact rfl; (focus with_reducible assumption); (focus infer_instance); omega) | (apply p_ldKb; exact rfl; exact rfl; exact rfl; (focus with_reducible assumption); (focus infer_instance); omega) | (apply p_ldKs; exact rfl; exact rfl; exact rfl; (focus with_reducible assumption); (focus infer_instance); omega) | (apply p_ldIx; exact rfl; exact rfl; exact rfl; (focus with_reducible assumption); (focus infer_instance); exact rfl) | (apply p_ldI0; exact rfl; exact rfl; exact rfl; (focus with_reducible assumption); (focus infer_instance); exact rfl) | (apply p_ldIA; exact rfl; exact rfl; exact rfl; (focus with_reducible assumption); (focus infer_instance); exact rfl) | (apply p_ldIxV; exact rfl; exact rfl; exact rfl; (focus with_reducible assumption); (focus infer_instance); exact rfl) | (apply p_ldIx2; exact rfl; exact rfl; exact rfl; (focus with_reducible assumption); (focus infer_instance); exact rfl) | (apply p_ldOV0; exact rfl; exact rfl; exact rfl; (focus with_reducible assumption); (focus infer_instance); (focus ((repeat (first | exact Pk.here | apply Pk.there)); done)); omega) | (apply p_ldOE1; exact rfl; exact rfl; exact rfl; (focus with_reducible assumption); (focus infer_instance); (focus ((repeat (first | exact Pk.here | apply Pk.there)); done)); omega) | (apply p_ixN; exact rfl; exact rfl; exact rfl; exact rfl; (focus with_reducible assumption); exact rfl; omega) | (apply p_ixI; exact rfl; exact rfl; exact rfl; exact rfl; (focus with_reducible assumption); exact rfl; omega) | (apply p_ixO; exact rfl; exact rfl; exact rfl; exact rfl; (focus with_reducible assumption); exact rfl; omega) | (apply p_ixL; exact rfl; exact rfl; exact rfl; exact rfl; omega) | (apply p_ixLi; exact rfl; exact rfl; exact rfl; exact rfl; omega) | (apply p_ixA; exact rfl; exact rfl; exact rfl; exact rfl; omega) | (apply p_ixAi; exact rfl; exact rfl; exact rfl; exact rfl; omega) | (apply p_lenS; exact rfl; exact rfl; exact rfl) | (apply p_eqS; exact rfl; exact rfl; exact rfl) | (apply p_neS; exact rfl; exact rfl; exact rfl) | (apply p_add; exact rfl; exact rfl; exact rfl; omega) | (apply p_sub; exact rfl; exact rfl; exact rfl; omega) | (apply p_mul; exact rfl; exact rfl; exact rfl; omega) | (apply p_add64; exact rfl; exact rfl; exact rfl; omega) | (apply p_sub64; exact rfl; exact rfl; exact rfl; omega) | (apply p_mul64; exact rfl; exact rfl; exact rfl; omega) | (apply p_addQ; exact rfl; exact rfl; exact rfl) | (apply p_subQ; exact rfl; exact rfl; exact rfl) | (apply p_mulQ; exact rfl; exact rfl; exact rfl) | (apply p_rem; exact rfl; exact rfl; exact rfl; omega) | (apply p_remU; exact rfl; exact rfl; exact rfl; decide) | (apply p_quo8; exact rfl; exact rfl; exact rfl; omega) | (apply p_quo64; exact rfl; exact rfl; exact rfl; omega) | (apply p_quo; exact rfl; exact rfl; exact rfl; omega) | (apply p_eqV; exact rfl; exact rfl; exact rfl) | (apply p_neV; exact rfl; exact rfl; exact rfl) | (apply p_eqE; exact rfl; exact rfl; exact rfl) | (apply p_neE; exact rfl; exact rfl; exact rfl) | (apply p_sliceS; exact rfl; exact rfl; exact rfl; exact rfl; exact rfl; omega) | (apply p_sliceLo; exact rfl; exact rfl; exact rfl; exact rfl; omega) | (apply p_sliceHi; exact rfl; exact rfl; exact rfl; exact rfl; omega) | (apply p_lookV; exact rfl; exact rfl; exact rfl; (focus ((repeat (first | exact .here .here | exact .here (.there .here) | exact .here (.there (.there .here)) | apply InM.there)); done)); (focus with_reducible assumption)) | (apply p_look1V; exact rfl; exact rfl; exact rfl; (focus ((repeat (first | exact .here .here | exact .here (.there .here) | exact .here (.there (.there .here)) | apply InM.there)); done)); (focus with_reducible assumption)) | (apply p_shr; exact rfl; exact rfl; exact rfl; (focus (first | decide | omega | exact u64_nn _))) | (apply p_shl; exact rfl; exact rfl; exact rfl; (focus (first | decide | omega | exact u64_nn _))) | (apply p_neg; exact rfl; exact rfl) | (apply p_cpl; exact rfl; exact rfl) | (apply p_min; exact rfl; exact rfl; exact rfl) | (apply p_conv; exact rfl; exact rfl; (focus (first | exact wrap_u8 (by omega) | exact wrap_u32 (by omega) | exact wrap_u64 (by omega) | exact wrap_i64 (by omega)))) | (apply p_conv; exact rfl; exact rfl; exact rfl) | (apply p_ixV; exact rfl; exact rfl; exact rfl; omega) | (apply p_index; exact rfl; exact rfl; exact rfl; exact rfl; omega) | (apply p_slAB; exact rfl; exact rfl; exact rfl; exact rfl; exact rfl; omega) | (apply p_slA; exact rfl; exact rfl; exact rfl; exact rfl; omega) | (apply p_slB; exact rfl; exact rfl; exact rfl; exact rfl; omega) | (apply p_sliceArr; exact rfl; exact rfl; exact rfl; exact rfl) | (apply p_pickT; exact rfl; exact rfl; (focus (first | with_reducible rfl | with_reducible assumption | decide)); exact rfl) | (apply p_pickF; exact rfl; exact rfl; (focus (first | with_reducible rfl | with_reducible assumption | decide)); exact rfl) | (apply p_cat; exact rfl; exact rfl; exact rfl; omega)) | (apply p_on; exact rfl; exact rfl; (focus (first | with_reducible assumption | decide)); (first | (apply p_pop; exact rfl; exact rfl) | (apply p_ld; exact rfl; exact rfl; exact rfl; (focus ((repeat (first | exact .here .here | exact .here (.there .here) | exact .here (.there (.there .here)) | apply InM.there)); done)); exact rfl) | (apply p_ldA; exact rfl; exact rfl; exact rfl; (focus ((repeat (first | exact .here .here | exact .here (.there .here) | exact .here (.there (.there .here)) | apply InM.there)); done)); exact rfl) | (apply p_ldRi; exact rfl; exact rfl; exact rfl; (focus ((repeat (first | exact .here .here | exact .here (.there .here) | exact .here (.there (.there .here)) | apply InM.there)); done)); omega) | (apply p_ldRx; exact rfl; exact rfl; exact rfl; (focus ((repeat (first | exact .here .here | exact .here (.there .here) | exact .here (.there (.there .here)) | apply InM.there)); done)); omega) | (apply p_ldRA; exact rfl; exact rfl; exact rfl; (focus ((repeat (first | exact .here .here | exact .here (.there .here) | exact .here (.there (.there .here)) | apply InM.there)); done)); (first | (simp only [List.length_map, List.length_replicate, List.length_set, List.length_append, List.length_cons, List.length_nil]; first | done | omega) | omega)) | (apply p_ldRg; exact rfl; exact rfl; exact rfl; (focus ((repeat (first | exact .here .here | exact .here (.there .here) | exact .here (.there (.there .here)) | apply InM.there)); done)); (focus ((repeat (first | exact GetN.here | apply GetN.there)); done))) | (apply p_ldRQ; exact rfl; exact rfl; exact rfl; (focus ((repeat (first | exact .here .here | exact .here (.there .here) | exact .here (.there (.there .here)) | apply InM.there)); done)); (focus ((repeat (first | exact DrpN.zero | apply DrpN.succ)); done)); (focus ((repeat (first | exact TakN.nil | apply TakN.cons)); done))) | (apply p_ldG; exact rfl; exact rfl; exact rfl; (focus with_reducible assumption); (focus infer_instance); omega) | (apply p_ldKi; exact rfl; exact rfl; exact rfl; (focus with_reducible assumption); (focus infer_instance); omega) | (apply p_ldKb; exact rfl; exact rfl; exact rfl; (focus with_reducible assumption); (focus infer_instance); omega) | (apply p_ldKs; exact rfl; exact rfl; exact rfl; (focus with_reducible assumption); (focus infer_instance); omega) | (apply p_ldIx; exact rfl; exact rfl; exact rfl; (focus with_reducible assumption); (focus infer_instance); exact rfl) | (apply p_ldI0; exact rfl; exact rfl; exact rfl; (focus with_reducible assumption); (focus infer_instance); exact rfl) | (apply p_ldIA; exact rfl; exact rfl; exact rfl; (focus with_reducible assumption); (focus infer_instance); exact rfl) | (apply p_ldIxV; exact rfl; exact rfl; exact rfl; (focus with_reducible assumption); (focus infer_instance); exact rfl) | (apply p_ldIx2; exact rfl; exact rfl; exact rfl; (focus with_reducible assumption); (focus infer_instance); exact rfl) | (apply p_ldOV0; exact rfl; exact rfl; exact rfl; (focus with_reducible assumption); (focus infer_instance); (focus ((repeat (first | exact Pk.here | apply Pk.there)); done)); omega) | (apply p_ldOE1; exact rfl; exact rfl; exact rfl; (focus with_reducible assumption); (focus infer_instance); (focus ((repeat (first | exact Pk.here | apply Pk.there)); done)); omega) | (apply p_ixN; exact rfl; exact rfl; exact rfl; exact rfl; (focus with_reducible assumption); exact rfl; omega) | (apply p_ixI; exact rfl; exact rfl; exact rfl; exact rfl; (focus with_reducible assumption); exact rfl; omega) | (apply p_ixO; exact rfl; exact rfl; exact rfl; exact rfl; (focus with_reducible assumption); exact rfl; omega) | (apply p_ixL; exact rfl; exact rfl; exact rfl; exact rfl; omega) | (apply p_ixLi; exact rfl; exact rfl; exact rfl; exact rfl; omega) | (apply p_ixA; exact rfl; exact rfl; exact rfl; exact rfl; omega) | (apply p_ixAi; exact rfl; exact rfl; exact rfl; exact rfl; omega) | (apply p_lenS; exact rfl; exact rfl; exact rfl) | (apply p_eqS; exact rfl; exact rfl; exact rfl) | (apply p_neS; exact rfl; exact rfl; exact rfl) | (apply p_add; exact rfl; exact rfl; exact rfl; omega) | (apply p_sub; exact rfl; exact rfl; exact rfl; omega) | (apply p_mul; exact rfl; exact rfl; exact rfl; omega) | (apply p_add64; exact rfl; exact rfl; exact rfl; omega) | (apply p_sub64; exact rfl; exact rfl; exact rfl; omega) | (apply p_mul64; exact rfl; exact rfl; exact rfl; omega) | (apply p_addQ; exact rfl; exact rfl; exact rfl) | (apply p_subQ; exact rfl; exact rfl; exact rfl) | (apply p_mulQ; exact rfl; exact rfl; exact rfl) | (apply p_rem; exact rfl; exact rfl; exact rfl; omega) | (apply p_remU; exact rfl; exact rfl; exact rfl; decide) | (apply p_quo8; exact rfl; exact rfl; exact rfl; omega) | (apply p_quo64; exact rfl; exact rfl; exact rfl; omega) | (apply p_quo; exact rfl; exact rfl; exact rfl; omega) | (apply p_eqV; exact rfl; exact rfl; exact rfl) | (apply p_neV; exact rfl; exact rfl; exact rfl) | (apply p_eqE; exact rfl; exact rfl; exact rfl) | (apply p_neE; exact rfl; exact rfl; exact rfl) | (apply p_sliceS; exact rfl; exact rfl; exact rfl; exact rfl; exact rfl; omega) | (apply p_sliceLo; exact rfl; exact rfl; exact rfl; exact rfl; omega) | (apply p_sliceHi; exact rfl; exact rfl; exact rfl; exact rfl; omega) | (apply p_lookV; exact rfl; exact rfl; exact rfl; (focus ((repeat (first | exact .here .here | exact .here (.there .here) | exact .here (.there (.there .here)) | apply InM.there)); done)); (focus with_reducible assumption)) | (apply p_look1V; exact rfl; exact rfl; exact rfl; (focus ((repeat (first | exact .here .here | exact .here (.there .here) | exact .here (.there (.there .here)) | apply InM.there)); done)); (focus with_reducible assumption)) | (apply p_shr; exact rfl; exact rfl; exact rfl; (focus (first | decide | omega | exact u64_nn _))) | (apply p_shl; exact rfl; exact rfl; exact rfl; (focus (first | decide | omega | exact u64_nn _))) | (apply p_neg; exact rfl; exact rfl) | (apply p_cpl; exact rfl; exact rfl) | (apply p_min; exact rfl; exact rfl; exact rfl) | (apply p_conv; exact rfl; exact rfl; (focus (first | exact wrap_u8 (by omega) | exact wrap_u32 (by omega) | exact wrap_u64 (by omega) | exact wrap_i64 (by omega)))) | (apply p_conv; exact rfl; exact rfl; exact rfl) | (apply p_ixV; exact rfl; exact rfl; exact rfl; omega) | (apply p_index; exact rfl; exact rfl; exact rfl; exact rfl; omega) | (apply p_slAB; exact rfl; exact rfl; exact rfl; exact rfl; exact rfl; omega) | (apply p_slA; exact rfl; exact rfl; exact rfl; exact rfl; omega) | (apply p_slB; exact rfl; exact rfl; exact rfl; exact rfl; omega) | (apply p_sliceArr; exact rfl; exact rfl; exact rfl; exact rfl) | (apply p_pickT; exact rfl; exact rfl; (focus (first | with_reducible rfl | with_reducible assumption | decide)); exact rfl) | (apply p_pickF; exact rfl; exact rfl; (focus (first | with_reducible rfl | with_reducible assumption | decide)); exact rfl) | (apply p_cat; exact rfl; exact rfl; exact rfl; omega))) | (apply p_offT; exact rfl; exact rfl; exact rfl; (first | with_reducible assumption | decide)) | (apply p_offF; exact rfl; exact rfl; exact rfl; (first | with_reducible assumption | decide)) | (apply p_offu; exact rfl; exact rfl; exact rfl))))); exact k.h)) : p := h ⟨k⟩
end Go.Proofs.YtngoaapgdfohjaaGreatDoor.X

set_option linter.unusedVariables false
set_option linter.unusedSimpArgs false
set_option maxHeartbeats 1000000
namespace Go.Proofs.YtngoaapgdfohjaaGreatDoor.X
open Go
/-! ## Regions that draw, and make blocks -/
def updS (sl : Nat → Option Value) (d : Option Nat) (v : Value) : Nat → Option Value := fun t => if d = some t then some v else sl t
section
variable {P : Program} {Q : Exit → Act → World → Prop} {a : Act} {w : World} {N : Nat} {D : List Deferred} {L : List (Nat × Value)} {G : Heap}
def StepS (P : Program) (Q : Exit → Act → World → Prop) (N : Nat) (D : List Deferred) (L : List (Nat × Value)) (WI : (Nat → Bool) → (Nat → Option Value) → Heap → World → Prop) (l : List Oper) (V : List (Value → Heap → Prop)) (i : Nat) (o : Oper) (p : Value → Heap → Prop) : Prop :=
  ∀ a w G f, ClosedF l f → f i = false → (∀ j, (ons o).elem j = true → f j = true) → WI f (fun t => a.tmps[t]?) G w → Env a N D L →
    (∀ j d q, f j = true → dstOf l.toArray j = some d → V[j]? = some q → ∃ v, a.tmps[d]? = some v ∧ q v G) →
    wpList P l.toArray (Exit.then (fun a' w' => ∃ v G2, Heap.le G G2 ∧ WI (updF f i) (updS (fun t => a.tmps[t]?) o.dst v) G2 w' ∧ (∀ d, o.dst = some d → a'.tmps[d]? = some v) ∧ a'.defers = D ∧ p v G2) Q) [o] a w
theorem drawnS {id : Nat} {l : List Oper} (n : Nat) (WI : (Nat → Bool) → (Nat → Option Value) → Heap → World → Prop) (V : List (Value → Heap → Prop)) (hm : P.follows .mixedOrders = true) (hb : backOk l.toArray = true) (hq : seqB l n = true) (hE : Env a N D L) (hW : WI (fun _ => false) (fun t => a.tmps[t]?) G w.drew) (hf : freshF (l.take n) L [] = true)
    (hmono : ∀ p ∈ V, ∀ v A B, Heap.le A B → p v A → p v B)
    (hstep : AllF (StepS P Q N D L WI l V) 0 (l.take n) V)
    (hend : ∀ a w G' f, Heap.le G G' → (∀ i, i < n → i < l.length → f i = true) → WI f (fun t => a.tmps[t]?) G' w → Env a N D L → (∀ j d q, dstOf l.toArray j = some d → V[j]? = some q → ∃ v, a.tmps[d]? = some v ∧ q v G') → wpList P l.toArray Q (l.drop n) a w) :
    (Code.region id l.toArray true).wp P Q a w := by
  obtain ⟨hf1, hf2⟩ := freshF_spec (l.take n) L [] hf
  have htake : ∀ {j : Nat} {o : Oper}, j < n → l[j]? = some o → (l.take n)[j]? = some o := fun hj ho => by rw [List.getElem?_take, if_pos hj]; exact ho
  have dst_of : ∀ {j : Nat} {o : Oper} {d : Nat}, l[j]? = some o → dstOf l.toArray j = some d → o.dst = some d := by
    intro j o d ho hd
    unfold dstOf at hd
    simp only [List.getElem?_toArray, ho, Option.bind_some] at hd
    exact hd
  have hVlen : ∀ {j : Nat} {q : Value → Heap → Prop}, V[j]? = some q → j < n := by
    have key : ∀ (k : Nat) (l' : List Oper) (V : List (Value → Heap → Prop)), AllF (StepS P Q N D L WI l V) k l' V → True := fun _ _ _ _ => trivial
    have hlen : ∀ {S : Nat → Oper → (Value → Heap → Prop) → Prop} {k : Nat} {l' : List Oper} {V' : List (Value → Heap → Prop)}, AllF S k l' V' → V'.length = l'.length := by
      intro S k l'
      induction l' generalizing k with
      | nil => intro V' h; cases V' with
        | nil => rfl
        | cons p q => exact h.elim
      | cons o r ih => intro V' h; cases V' with
        | nil => exact h.elim
        | cons p q => simp [ih h.2]
    intro j q hj
    have h1 := (List.getElem?_eq_some_iff.1 hj).1
    rw [hlen hstep, List.length_take] at h1
    omega
  refine drawnI (fun listed a w => listed.size = l.length ∧ ((∃ G', Heap.le G G' ∧ (∀ k, n ≤ k → listed.getD k false = false) ∧ ClosedF l (fun k => listed.getD k false) ∧ WI (fun k => listed.getD k false) (fun t => a.tmps[t]?) G' w ∧ Env a N D L ∧
      (∀ j d q, listed.getD j false = true → dstOf l.toArray j = some d → V[j]? = some q → ∃ v, a.tmps[d]? = some v ∧ q v G')) ∨
      (∃ j, n < j ∧ j ≤ l.length ∧ (∀ k, k < l.length → listed.getD k false = decide (k < j)) ∧ wpList P l.toArray Q (l.drop j) a w))) hm hb
    ⟨by simp, .inl ⟨G, Heap.le.refl _, ?_, ?_, ?_, hE, ?_⟩⟩ ?_ ?_
  · intro k _
    simp only [Array.getD_eq_getD_getElem?, Array.getElem?_replicate]
    split <;> simp
  · intro k o _ hk
    exfalso
    revert hk
    simp only [Array.getD_eq_getD_getElem?, Array.getElem?_replicate]
    split <;> simp
  · have : (fun k => (Array.replicate l.toArray.size false).getD k false) = (fun _ => false) := by
      funext k
      simp only [Array.getD_eq_getD_getElem?, Array.getElem?_replicate]
      split <;> simp
    rw [this]
    exact hW
  · intro j d q hj
    exfalso
    revert hj
    simp only [Array.getD_eq_getD_getElem?, Array.getElem?_replicate]
    split <;> simp
  · rintro listed a w i o ⟨hsz, hcase⟩ _ ho hfalse hon
    have hol : l[i]? = some o := by simpa using ho
    have hil : i < l.length := (List.getElem?_eq_some_iff.1 hol).1
    have hnow : ∀ j, (ons o).elem j = true → listed.getD j false = true := by
      intro j hj
      have : j ∈ ons o := List.mem_of_elem_eq_true hj
      unfold ons at this
      obtain ⟨e, he, rfl⟩ := List.mem_map.1 this
      obtain ⟨he, hbd⟩ := List.mem_filter.1 he
      simp [Array.getD_eq_getD_getElem?, hon e (Array.mem_toList_iff.1 he) hbd]
    have hset : ∀ k, (listed.setIfInBounds i true).getD k false = updF (fun k => listed.getD k false) i k := by
      intro k
      unfold updF
      simp only [Array.getD_eq_getD_getElem?, Array.getElem?_setIfInBounds]
      by_cases e : i = k
      · subst e
        rw [if_pos rfl, if_pos (by omega)]
        simp
      · rw [if_neg e]
        have : Nat.beq k i = false := by
          cases hb : Nat.beq k i with
          | false => rfl
          | true => exact absurd (Nat.eq_of_beq_eq_true hb).symm e
        rw [this, Bool.false_or]
    have hif : listed.getD i false = false := by simp [Array.getD_eq_getD_getElem?, hfalse]
    have hupd : ∀ k, updF (fun k => listed.getD k false) i k = (decide (k = i) || listed.getD k false) := by
      intro k
      unfold updF
      congr 1
      by_cases e : k = i
      · subst e; simp
      · rw [decide_eq_false e]
        cases hb : Nat.beq k i with
        | false => rfl
        | true => exact absurd (Nat.eq_of_beq_eq_true hb) e
    rcases hcase with ⟨G', hle, hno, hcl, hW', hE', hv⟩ | ⟨j, hj1, hj2, hjl, hwp⟩
    · by_cases hin : i < n
      · obtain ⟨p, hp, hok⟩ := hstep.get i o (htake hin hol)
        rw [Nat.zero_add] at hok
        have h1 := hok a w G' (fun k => listed.getD k false) hcl hif hnow hW' hE' hv
        have hfin : ∀ a' w', (∃ v G2, Heap.le G' G2 ∧ WI (updF (fun k => listed.getD k false) i) (updS (fun t => a.tmps[t]?) o.dst v) G2 w' ∧ (∀ d, o.dst = some d → a'.tmps[d]? = some v) ∧ a'.defers = D ∧ p v G2) ∧ (∃ v, a'.tmps = (a.put o.dst v).tmps) →
            (listed.setIfInBounds i true).size = l.length ∧ ((∃ G', Heap.le G G' ∧ (∀ k, n ≤ k → (listed.setIfInBounds i true).getD k false = false) ∧ ClosedF l (fun k => (listed.setIfInBounds i true).getD k false) ∧ WI (fun k => (listed.setIfInBounds i true).getD k false) (fun t => a'.tmps[t]?) G' w' ∧ Env a' N D L ∧
          (∀ j d q, (listed.setIfInBounds i true).getD j false = true → dstOf l.toArray j = some d → V[j]? = some q → ∃ v, a'.tmps[d]? = some v ∧ q v G')) ∨
          (∃ j, n < j ∧ j ≤ l.length ∧ (∀ k, k < l.length → (listed.setIfInBounds i true).getD k false = decide (k < j)) ∧ wpList P l.toArray Q (l.drop j) a' w')) := by
          rintro a' w' ⟨⟨v, G2, hl2, hW2, hav, hdf, hpv⟩, ⟨u, hu⟩⟩
          have hget : ∀ t, o.dst ≠ some t → a'.tmps[t]? = a.tmps[t]? := fun t ht => by
            rw [hu]
            cases hd : o.dst with
            | none => rfl
            | some d =>
              rw [hd] at ht
              have hne : ¬ d = t := fun e => ht (congrArg some e)
              simp only [Act.put, Array.getElem?_setIfInBounds, if_neg hne]
          have hsize : a'.tmps.size = N := by
            rw [hu]
            cases o.dst <;> simp [Act.put, hE'.size]
          refine ⟨by simpa using hsz, .inl ⟨G2, hle.trans hl2, ?_, ?_, ?_, ⟨hsize, hdf, fun t x ht => ?_⟩, fun j dj q hj hdj hq => ?_⟩⟩
          · intro k hk
            rw [hset, hupd, decide_eq_false (by omega), hno k hk]; rfl
          · intro k o' ho' hk j hj
            simp only [hset] at hk ⊢
            unfold updF at hk ⊢
            rw [Bool.or_eq_true] at hk ⊢
            rcases hk with hk | hk
            · have := Nat.eq_of_beq_eq_true hk
              subst this
              rw [hol] at ho'; cases ho'
              exact .inr (hnow j hj)
            · exact .inr (hcl k o' ho' hk j hj)
          · have : (fun k => (listed.setIfInBounds i true).getD k false) = updF (fun k => listed.getD k false) i := funext hset
            have hsl : updS (fun t => a.tmps[t]?) o.dst v = fun t => a'.tmps[t]? := funext fun t => by
              unfold updS
              by_cases e : o.dst = some t
              · rw [if_pos e, hav t e]
              · rw [if_neg e, hget t e]
            rw [this, ← hsl]
            exact hW2
          · rw [hget t (fun e => by have := (hf1 i o t (htake hin hol) e).1; rw [this] at ht; cases ht)]
            exact hE'.get t x ht
          · by_cases e : j = i
            · subst e
              rw [hp] at hq; cases hq
              exact ⟨v, hav dj (dst_of hol hdj), hpv⟩
            · rw [hset] at hj
              unfold updF at hj
              have hji : Nat.beq j i = false := by
                cases hb : Nat.beq j i with
                | false => rfl
                | true => exact absurd (Nat.eq_of_beq_eq_true hb) e
              rw [hji, Bool.false_or] at hj
              obtain ⟨x, hx1, hx2⟩ := hv j dj q hj hdj hq
              refine ⟨x, ?_, hmono q (List.mem_of_getElem? hq) _ _ _ hl2 hx2⟩
              rw [hget dj fun hd => ?_]
              · exact hx1
              · cases hoj : l[j]? with
                | none => unfold dstOf at hdj; simp [hoj] at hdj
                | some oj => exact e (hf2 j i oj o dj (htake (hVlen hq) hoj) (htake hin hol) (dst_of hoj hdj) hd)
        unfold wpOp
        rw [ho]
        simp only
        unfold wpList at h1
        by_cases hw : Region.wanted o (yielded l.toArray a.tmps) = true
        · rw [if_pos hw] at h1 ⊢
          rcases h1 with h1 | ⟨h1, a', w', hq⟩
          · exact .inl (wp_exits (fun _ _ _ h => h) (fun ⟨a, w, h⟩ => ⟨a, w, h⟩) (Oper.wp_mono hfin (wp_put h1)))
          · exact .inr ⟨h1, a', w', hq⟩
        · rw [if_neg hw] at h1 ⊢
          exact hfin _ _ ⟨h1, _, rfl⟩
      · have hall := ancF_now hcl hol hnow l.length
        have hlt : ∀ k, k < i → listed.getD k false = true := fun k hk => hall k (seqB_spec hq hil (by omega) hk)
        have hi0 : i = n := by
          rcases Nat.lt_or_ge n i with h | h
          · have h1 := hlt n h; rw [hno n (Nat.le_refl _)] at h1; cases h1
          · omega
        subst hi0
        have h1 := hend a w G' _ hle (fun k hk _ => hlt k hk) hW' hE' (fun j d q hd hvq => hv j d q (hlt j (hVlen hvq)) hd hvq)
        rw [List.drop_eq_getElem_cons hil, (List.getElem?_eq_some_iff.1 hol).2] at h1
        refine wpOp_list ho h1 fun a' w' h2 => ⟨by simpa using hsz, .inr ⟨i + 1, by omega, by omega, fun k hk => ?_, h2⟩⟩
        rw [hset, hupd]
        rcases Nat.lt_trichotomy k i with h | h | h
        · rw [hlt k h, Bool.or_true, decide_eq_true (by omega)]
        · rw [decide_eq_true h, Bool.true_or, decide_eq_true (by omega)]
        · rw [decide_eq_false (by omega), hno k (by omega), decide_eq_false (by omega)]; rfl
    · have hcl : ∀ k, k < i → k < j := by
        intro k hk
        have h0 : ∀ m, (ons o).elem m = true → (fun x => listed.getD x false) m = true := hnow
        have hcl2 : ClosedF l (fun x => decide (x < j)) := by
          intro x ox hox hx y hy
          simp only [decide_eq_true_eq] at hx ⊢
          have hxl := (List.getElem?_eq_some_iff.1 hox).1
          have hb2 := backOk_lt hb hox hy
          omega
        have h1 : ∀ m, (ons o).elem m = true → (fun x => decide (x < j)) m = true := by
          intro m hm2
          have h3 := h0 m hm2
          have hml : m < l.length := by
            cases Nat.lt_or_ge m l.length with
            | inl h => exact h
            | inr h => have h3' : listed.getD m false = true := h3; rw [Array.getD_eq_getD_getElem?, Array.getElem?_eq_none (by omega)] at h3'; cases h3'
          have h4 := hjl m hml
          have h3' : listed.getD m false = true := h3
          rw [h3'] at h4
          exact h4.symm
        have := ancF_now hcl2 hol h1 l.length k (seqB_spec hq hil (by have := hjl i hil; rw [hif] at this; have := of_decide_eq_false this.symm; omega) hk)
        simpa using this
      have hij : i = j := by
        have h1 := hjl i hil
        rw [hif] at h1
        have h2 := of_decide_eq_false h1.symm
        rcases Nat.lt_or_ge j i with h | h
        · have := hcl j h; omega
        · omega
      subst hij
      rw [List.drop_eq_getElem_cons hil, (List.getElem?_eq_some_iff.1 hol).2] at hwp
      refine wpOp_list ho hwp fun a' w' h2 => ⟨by simpa using hsz, .inr ⟨i + 1, by omega, by omega, fun k hk => ?_, h2⟩⟩
      rw [hset, hupd, hjl k hk]
      by_cases h : k = i
      · subst h; simp
      · by_cases h3 : k < i
        · rw [decide_eq_true h3, Bool.or_true, decide_eq_true (by omega)]
        · rw [decide_eq_false h, decide_eq_false h3, decide_eq_false (by omega)]; rfl
  · rintro listed a w ⟨hsz, hcase⟩ hall
    have hd : ∀ i, i < l.length → listed.getD i false = true := fun i hi => by
      simp [Array.getD_eq_getD_getElem?, hall i (by simpa using hi)]
    rcases hcase with ⟨G', hle, hno, hcl, hW', hE', hv⟩ | ⟨j, hj1, hj2, hjl, hwp⟩
    · have hln : l.length ≤ n := by
        rcases Nat.lt_or_ge n l.length with h | h
        · have h1 := hd n h; rw [hno n (Nat.le_refl _)] at h1; cases h1
        · exact h
      have h1 := hend a w G' _ hle (fun k _ hk => hd k hk) hW' hE' (fun j d q hdj hvq => hv j d q (by
        cases hoj : l[j]? with
        | none => unfold dstOf at hdj; simp [hoj] at hdj
        | some oj => exact hd j (List.getElem?_eq_some_iff.1 hoj).1) hdj hvq)
      rw [List.drop_eq_nil_of_le hln] at h1
      exact h1
    · have : j = l.length := by
        rcases Nat.lt_or_ge j l.length with h | h
        · have h1 := hjl j h; rw [hd j h] at h1; have := of_decide_eq_true h1.symm; omega
        · omega
      subst this
      rw [List.drop_eq_nil_of_le (Nat.le_refl _)] at hwp
      exact hwp
end
/-- A block that a region makes: its operation, its slot, its content. -/
abbrev Mk := Nat × Nat × (Obj → Prop)
def RA (sl : Nat → Option Value) (f : Nat → Bool) : List Mk → List Chunk → Prop
  | [], R => R = []
  | (i, t, q) :: al, R => (f i = false ∧ RA sl f al R) ∨ (f i = true ∧ ∃ b R', sl t = some (.pointer (some ⟨b, 0, none⟩)) ∧ R = [(b, q)] :: R' ∧ RA sl f al R')
theorem RA.keep {sl sl' : Nat → Option Value} {f f' : Nat → Bool} : ∀ {al : List Mk} {R : List Chunk}, (∀ x ∈ al, f' x.1 = f x.1) → (∀ x ∈ al, f x.1 = true → sl' x.2.1 = sl x.2.1) → RA sl f al R → RA sl' f' al R
  | [], R, _, _, h => h
  | (i, t, q) :: al, R, h1, h2, h => by
    have a1 : f' i = f i := h1 (i, t, q) List.mem_cons_self
    have a3 : ∀ x ∈ al, f' x.1 = f x.1 := fun x hx => h1 x (List.mem_cons_of_mem _ hx)
    have a4 : ∀ x ∈ al, f x.1 = true → sl' x.2.1 = sl x.2.1 := fun x hx => h2 x (List.mem_cons_of_mem _ hx)
    rcases h with ⟨e, h⟩ | ⟨e, b, R', e2, e3, h⟩
    · exact .inl ⟨a1.trans e, h.keep a3 a4⟩
    · exact .inr ⟨a1.trans e, b, R', (h2 (i, t, q) List.mem_cons_self e).trans e2, e3, h.keep a3 a4⟩
theorem RA.put {sl : Nat → Option Value} {f : Nat → Bool} {i t b : Nat} {q : Obj → Prop} : ∀ {al : List Mk} {R : List Chunk}, (i, t, q) ∈ al → (al.map (·.1)).Nodup → (∀ x ∈ al, x.1 ≠ i → x.2.1 ≠ t) → f i = false → RA sl f al R →
    ∃ R2, RA (updS sl (some t) (.pointer (some ⟨b, 0, none⟩))) (updF f i) al R2 ∧ List.Perm R2.flatten ((b, q) :: R.flatten)
  | [], R, hm, _, _, _, _ => by cases hm
  | (i', t', q') :: al, R, hm, hn, hs, hf, h => by
    rw [List.map_cons, List.nodup_cons] at hn
    have hu : ∀ k, k ≠ i → updF f i k = f k := fun k hk => by
      unfold updF
      cases e : Nat.beq k i with
      | false => rfl
      | true => exact absurd (Nat.eq_of_beq_eq_true e) hk
    by_cases he : i' = i
    · subst he
      have heq : (i', t, q) = (i', t', q') := by
        rcases List.mem_cons.1 hm with h | h
        · exact h
        · exact absurd (List.mem_map.2 ⟨_, h, rfl⟩) hn.1
      cases heq
      rcases h with ⟨_, h⟩ | ⟨e, _⟩
      · refine ⟨[(b, q)] :: R, .inr ⟨by unfold updF; simp, b, R, by simp [updS], rfl, ?_⟩, by simp⟩
        refine h.keep (fun x hx => hu _ fun e => hn.1 (List.mem_map.2 ⟨x, hx, e⟩)) fun x hx _ => ?_
        unfold updS
        rw [if_neg]
        intro e
        exact hs x (List.mem_cons_of_mem _ hx) (fun e => hn.1 (List.mem_map.2 ⟨x, hx, e⟩)) (Option.some.inj e).symm
      · rw [hf] at e; cases e
    · have hm' : (i, t, q) ∈ al := by
        rcases List.mem_cons.1 hm with h | h
        · cases h; exact absurd rfl he
        · exact h
      rcases h with ⟨e, h⟩ | ⟨e, b', R', e2, e3, h⟩
      · obtain ⟨R2, g1, g2⟩ := h.put (b := b) hm' hn.2 (fun x hx => hs x (List.mem_cons_of_mem _ hx)) hf
        exact ⟨R2, .inl ⟨(hu i' he).trans e, g1⟩, g2⟩
      · obtain ⟨R2, g1, g2⟩ := h.put (b := b) hm' hn.2 (fun x hx => hs x (List.mem_cons_of_mem _ hx)) hf
        refine ⟨[(b', q')] :: R2, .inr ⟨(hu i' he).trans e, b', R2, ?_, rfl, g1⟩, ?_⟩
        · unfold updS
          rw [if_neg]
          · exact e2
          · intro e; exact hs (i', t', q') List.mem_cons_self he (Option.some.inj e).symm
        · subst e3
          simp only [List.flatten_cons, List.cons_append, List.nil_append]
          exact (g2.cons _).trans (.swap _ _ _)
section
variable {P : Program} {Q0 : Exit → Act → World → Prop} {N : Nat} {D : List Deferred} {w0 : World} {G0 : Heap} {K0 : List Nat} {s : List Itm} {G G1 : Heap} {L L' : List (Nat × Value)} {M M' R0 : List Chunk} {ops all : Array Oper} {o : Oper} {d : Nat} {v : Value} {rest : List Oper}
variable {ty : TypeId} {pos : String} {af : Array Edge}
/-- What a new block of a type holds. -/
class AZ (P : Program) (T : Nat) (q : Obj → Prop) : Prop where
  h : ∃ z, zeroOf P T = some z ∧ ∀ o, Cells T (enum 0 (cellsOf z)) o → Arr T (cellsOf z) o → q o
/-- The walk of a region that draws, and makes blocks. -/
inductive DA (P : Program) (N : Nat) (D : List Deferred) (w0 : World) (G0 : Heap) (K0 : List Nat) (ops : Array Oper) (G : Heap) (M : List Chunk) (al : List Mk) (Kp : List (Nat × Value) → Prop) : Nat → List Oper → List (Nat × Value) → Prop where
  | nil {k : Nat} {L : List (Nat × Value)} (h : Kp L) : DA P N D w0 G0 K0 ops G M al Kp k [] L
  | cons {k : Nat} {o : Oper} {rest : List Oper} {L : List (Nat × Value)} {d : Nat} {v : Value} (hk : al.all (fun x => !Nat.beq x.1 k) = true) (h : ∀ R, Stp P N D w0 G0 K0 ops G (resE L (tmpsOf ops o)) (M ++ R) o d v) (kk : DA P N D w0 G0 K0 ops G M al Kp (k + 1) rest ((d, v) :: L)) : DA P N D w0 G0 K0 ops G M al Kp k (o :: rest) L
  | alloc {k : Nat} {rest : List Oper} {L : List (Nat × Value)} {d T : Nat} {vs : List Value} {ty : TypeId} {pos : String} {af : Array Edge} (hN : Nat.blt d N = true) (i : ZR P T vs) (hk : (k, d, Arr T vs) ∈ al) (kk : DA P N D w0 G0 K0 ops G M al Kp (k + 1) rest L) : DA P N D w0 G0 K0 ops G M al Kp k (⟨some d, .alloc T, ty, pos, af, none⟩ :: rest) L
/-- What is told of one operation. -/
def Told (P : Program) (Q : Exit → Act → World → Prop) (N : Nat) (D : List Deferred) (w0 : World) (G0 : Heap) (K0 : List Nat) (l : List Oper) (G : Heap) (M : List Chunk) (al : List Mk) (L0 : List (Nat × Value)) (V : List (Value → Heap → Prop)) (i : Nat) (o : Oper) (p : Value → Heap → Prop) : Prop :=
  (∃ d T vs ty pos af, o = ⟨some d, .alloc T, ty, pos, af, none⟩ ∧ Nat.blt d N = true ∧ ZR P T vs ∧ (i, d, Arr T vs) ∈ al ∧ p = fun _ _ => True) ∨
  (∃ d v, o.dst = some d ∧ al.all (fun x => !Nat.beq x.1 i) = true ∧ p = isV v ∧ ∀ (a : Act) (w : World) (G' : Heap) (R : List Chunk), Heap.le G G' → St w0 G0 K0 G' w (M ++ R) → Env a N D L0 →
    (∀ j dj vj, (ons o).elem j = true → dstOf l.toArray j = some dj → V[j]? = some (isV vj) → a.tmps[dj]? = some vj) →
    wpList P l.toArray (Exit.then (fun a' w' => ∃ G2, Heap.le G' G2 ∧ St w0 G0 K0 G2 w' (M ++ R) ∧ a'.tmps[d]? = some v ∧ a'.defers = D) Q) [o] a w)
theorem DA.told (Q : Exit → Act → World → Prop) {l : List Oper} {al : List Mk} {Kp : List (Nat × Value) → Prop} {L0 : List (Nat × Value)} {h' : List Oper} (hr : readsOk h' l = true) (tl : List Oper) :
    ∀ (rest pre : List Oper) (vsp : List (Value → Heap → Prop)) (Lk : List (Nat × Value)), l = pre ++ (rest ++ tl) → ((∀ o ∈ rest, o ∈ h') ∧ pre.length + rest.length ≤ h'.length) → vsp.length = pre.length →
      (∀ t u, lk Lk t = some u → (∃ j, j < pre.length ∧ dstOf l.toArray j = some t ∧ vsp[j]? = some (isV u)) ∨ lk L0 t = some u) →
      DA P N D w0 G0 K0 l.toArray G M al Kp pre.length rest Lk →
      ∃ (vsr : List (Value → Heap → Prop)) (L' : List (Nat × Value)), vsr.length = rest.length ∧ Kp L' ∧
        (∀ t u, lk L' t = some u → (∃ j, dstOf l.toArray j = some t ∧ (vsp ++ vsr)[j]? = some (isV u)) ∨ lk L0 t = some u) ∧
        ∀ (i : Nat) (o : Oper), rest[i]? = some o → ∃ p, vsr[i]? = some p ∧ Told P Q N D w0 G0 K0 l G M al L0 (vsp ++ vsr) (pre.length + i) o p
  | [], pre, vsp, Lk, hl, hh, hv, hi, h => by
    cases h with
    | nil h => exact ⟨[], Lk, rfl, h, fun t u ht => (hi t u ht).imp (fun ⟨j, _, h1, h2⟩ => ⟨j, h1, by simpa using h2⟩) id, fun i o ho => by simp at ho⟩
  | o :: rest, pre, vsp, Lk, hl, hh, hv, hi, h => by
    have hk : l[pre.length]? = some o := by rw [hl]; simp
    cases h with
    | @cons _ _ _ _ d v hnk h k =>
      have hd := (h []).dst
      have hdk : dstOf l.toArray pre.length = some d := by unfold dstOf; simp [hk, hd]
      obtain ⟨vsr, L', e1, e2, e3, e4⟩ := DA.told Q hr tl rest (pre ++ [o]) (vsp ++ [isV v]) ((d, v) :: Lk) (by rw [hl]; simp) ⟨fun o ho => hh.1 o (List.mem_cons_of_mem _ ho), by have := hh.2; simp at this ⊢; omega⟩ (by simp [hv]) (by
        intro t u ht
        rcases lk_cons ht with ⟨rfl, rfl⟩ | ⟨_, ht⟩
        · exact .inl ⟨pre.length, by simp, hdk, by simp [← hv]⟩
        · refine (hi t u ht).imp (fun ⟨j, h0, h1, h2⟩ => ⟨j, by simp; omega, h1, ?_⟩) id
          rw [List.getElem?_append_left (by omega)]; exact h2) (by simpa using k)
      refine ⟨isV v :: vsr, L', by simp [e1], e2, fun t u ht => by simpa using e3 t u ht, fun i o' ho' => ?_⟩
      cases i with
      | succ i =>
        obtain ⟨p, g1, g2⟩ := e4 i o' (by simpa using ho')
        refine ⟨p, by simpa using g1, ?_⟩
        have e : (pre ++ [o]).length + i = pre.length + (i + 1) := by simp; omega
        rw [e] at g2
        simpa using g2
      | zero =>
        simp only [List.getElem?_cons_zero, Option.some.injEq] at ho'
        subst ho'
        refine ⟨isV v, rfl, .inr ⟨d, v, hd, by simpa using hnk, rfl, fun a w G' R hle S E hw => ?_⟩⟩
        refine (h R).run _ [] a w G' hle ⟨E.size, E.defers, fun t u ht => ?_⟩ S (fun a' w' G2 h2 E2 S2 => ?_)
        · obtain ⟨m1, m2⟩ := resE_get ht
          rcases hi t u m2 with ⟨j, h0, h1, h2⟩ | h1
          · exact hw j t u (readsOk_spec hr (hh.1 _ List.mem_cons_self) m1 (by have := hh.2; omega) h1) h1 (by rw [List.getElem?_append_left (by omega)]; exact h2)
          · exact E.get t u h1
        · exact ⟨G2, h2, S2, E2.get d v (by simp [lk]), E2.defers⟩
    | @alloc _ _ _ d T vs ty pos af hN i hm k =>
      obtain ⟨vsr, L', e1, e2, e3, e4⟩ := DA.told Q hr tl rest (pre ++ [⟨some d, .alloc T, ty, pos, af, none⟩]) (vsp ++ [fun _ _ => True]) Lk (by rw [hl]; simp) ⟨fun o ho => hh.1 o (List.mem_cons_of_mem _ ho), by have := hh.2; simp at this ⊢; omega⟩ (by simp [hv]) (by
        intro t u ht
        refine (hi t u ht).imp (fun ⟨j, h0, h1, h2⟩ => ⟨j, by simp; omega, h1, ?_⟩) id
        rw [List.getElem?_append_left (by omega)]; exact h2) (by simpa using k)
      refine ⟨(fun _ _ => True) :: vsr, L', by simp [e1], e2, fun t u ht => by simpa using e3 t u ht, fun j o' ho' => ?_⟩
      cases j with
      | succ j =>
        obtain ⟨p, g1, g2⟩ := e4 j o' (by simpa using ho')
        refine ⟨p, by simpa using g1, ?_⟩
        have e : (pre ++ [(⟨some d, .alloc T, ty, pos, af, none⟩ : Oper)]).length + j = pre.length + (j + 1) := by simp; omega
        rw [e] at g2
        simpa using g2
      | zero =>
        simp only [List.getElem?_cons_zero, Option.some.injEq] at ho'
        subst ho'
        exact ⟨_, rfl, .inl ⟨d, T, vs, ty, pos, af, rfl, hN, i, hm, rfl⟩⟩
def KA (K : List (Nat × Value) → List Chunk → Prop) : List Mk → List (Nat × Value) → List Chunk → Prop
  | [], L, M => K L M
  | (_, t, q) :: al, L, M => ∀ b, KA K al ((t, .pointer (some ⟨b, 0, none⟩)) :: L) ([(b, q)] :: M)
theorem KA.get {K : List (Nat × Value) → List Chunk → Prop} {a : Act} {w : World} {f : Nat → Bool} {G' : Heap} : ∀ {al : List Mk} {L : List (Nat × Value)} {M R : List Chunk}, KA K al L M → (∀ x ∈ al, f x.1 = true) → RA (fun t => a.tmps[t]?) f al R → Env a N D L → St w0 G0 K0 G' w (M ++ R) →
    ∃ L' M', K L' M' ∧ Env a N D L' ∧ St w0 G0 K0 G' w M'
  | [], L, M, R, h, _, hR, E, S => by cases hR; exact ⟨L, M, h, E, by simpa using S⟩
  | (i, t, q) :: al, L, M, R, h, hf, hR, E, S => by
    have hfi : f i = true := hf (i, t, q) List.mem_cons_self
    rcases hR with ⟨e, _⟩ | ⟨_, b, R', e2, rfl, hR⟩
    · rw [hfi] at e; cases e
    · exact KA.get (h b) (fun x hx => hf x (List.mem_cons_of_mem _ hx)) hR (E.add e2) (S.perm (by
        simp only [List.flatten_append, List.flatten_cons, List.cons_append, List.nil_append]
        exact List.perm_middle.symm))
/-- The list of the blocks fits the operations. -/
def alOk (n : Nat) (l : List Oper) : List Mk → List Nat → Bool
  | [], _ => true
  | (i, t, _) :: al, seen => Nat.blt i n && (dstOf l.toArray i == some t) && !(seen.elem i) && alOk n l al (i :: seen)
theorem alOk_spec {n : Nat} {l : List Oper} : ∀ {al : List Mk} {seen : List Nat}, alOk n l al seen = true → (∀ x ∈ al, x.1 < n ∧ dstOf l.toArray x.1 = some x.2.1 ∧ x.1 ∉ seen) ∧ (al.map (·.1)).Nodup
  | [], _, _ => ⟨fun x hx => (by cases hx), List.nodup_nil⟩
  | (i, t, q) :: al, seen, h => by
    unfold alOk at h
    simp only [Bool.and_eq_true, Bool.not_eq_true', beq_iff_eq] at h
    obtain ⟨⟨⟨h1, h2⟩, h3⟩, h4⟩ := h
    obtain ⟨g1, g2⟩ := alOk_spec h4
    have h3' : i ∉ seen := by simpa using h3
    refine ⟨fun x hx => ?_, ?_⟩
    · rcases List.mem_cons.1 hx with rfl | hx
      · exact ⟨(by rw [Nat.blt_eq] at h1; exact h1), h2, h3'⟩
      · obtain ⟨a1, a2, a3⟩ := g1 x hx
        exact ⟨a1, a2, fun h => a3 (List.mem_cons_of_mem _ h)⟩
    · rw [List.map_cons, List.nodup_cons]
      refine ⟨fun h => ?_, g2⟩
      obtain ⟨x, hx, e⟩ := List.mem_map.1 h
      exact (g1 x hx).2.2 (by rw [e]; exact List.mem_cons_self)
theorem w_da (n : Nat) (al : List Mk) {id : Nat} {l : List Oper} [m : Mix P] (hb : (backOk l.toArray && (readsOk (l.take n) l && seqB l n)) = true) (ha : alOk n l al [] = true)
    (h : DA P N D w0 G0 K0 l.toArray G M al (fun L' => ∀ G', Le1 G G' → KA (fun L2 M2 => W P Q0 N D w0 G0 K0 (.ops l.toArray (l.drop n) :: s) G' L2 M2) al L' M) 0 (l.take n) L) (hf : freshF (l.take n) L [] = true := by exact rfl) : W P Q0 N D w0 G0 K0 (.co (.region id l.toArray true) :: s) G L M := by
  refine W.of fun a w E S => ?_
  rw [Bool.and_eq_true, Bool.and_eq_true] at hb
  obtain ⟨ha1, ha2⟩ := alOk_spec ha
  obtain ⟨hf1, hf2⟩ := freshF_spec (l.take n) L [] hf
  obtain ⟨vs, L', e1, e2, e3, e4⟩ := DA.told (aft P Q0 s) hb.2.1 (l.drop n) (l.take n) [] [] L (by simp) ⟨fun _ h => h, by simp⟩ rfl (fun t u h => .inr h) h
  simp only [List.nil_append] at e3 e4
  have e4' : ∀ (i : Nat) (o : Oper), (l.take n)[i]? = some o → ∃ p, vs[i]? = some p ∧ Told P (aft P Q0 s) N D w0 G0 K0 l G M al L vs i o p := fun i o ho => by
    obtain ⟨p, g1, g2⟩ := e4 i o ho
    rw [List.length_nil, Nat.zero_add] at g2
    exact ⟨p, g1, g2⟩
  have opAt : ∀ {i t : Nat}, i < n → dstOf l.toArray i = some t → ∃ o, (l.take n)[i]? = some o ∧ o.dst = some t := fun {i t} hi hd => by
    unfold dstOf at hd
    simp only [List.getElem?_toArray] at hd
    cases hl : l[i]? with
    | none => rw [hl] at hd; cases hd
    | some o => rw [hl] at hd; exact ⟨o, by rw [List.getElem?_take, if_pos hi]; exact hl, hd⟩
  refine drawnS n (fun f sl G' w => Heap.le G G' ∧ ∃ R, RA sl f al R ∧ St w0 G0 K0 G' w (M ++ R)) vs m.h hb.1 hb.2.2 E ⟨Heap.le.refl _, [], ?_, by simpa using S.drew⟩ hf (fun p hp v A B hAB h => ?_) ?_ ?_
  · have : ∀ al : List Mk, RA (fun t => a.tmps[t]?) (fun _ => false) al [] := fun al => by
      induction al with
      | nil => rfl
      | cons x al ih => exact .inl ⟨rfl, ih⟩
    exact this al
  · obtain ⟨i, hi⟩ := List.mem_iff_getElem?.1 hp
    have hi' : i < (l.take n).length := by rw [← e1]; exact (List.getElem?_eq_some_iff.1 hi).1
    obtain ⟨q, g1, g0⟩ := e4' i (l.take n)[i] (List.getElem?_eq_getElem hi')
    rw [hi] at g1
    cases g1
    rcases g0 with ⟨_, _, _, _, _, _, _, _, _, _, rfl⟩ | ⟨_, _, _, _, rfl, _⟩
    · trivial
    · exact h
  · have key : ∀ (r : List Oper) (us : List (Value → Heap → Prop)) (k : Nat), us.length = r.length → (∀ (i : Nat) (o : Oper), r[i]? = some o → (l.take n)[k + i]? = some o ∧ ∃ p, us[i]? = some p ∧ Told P (aft P Q0 s) N D w0 G0 K0 l G M al L vs (k + i) o p) →
        AllF (StepS P (aft P Q0 s) N D L (fun f sl G' w => Heap.le G G' ∧ ∃ R, RA sl f al R ∧ St w0 G0 K0 G' w (M ++ R)) l vs) k r us := by
      intro r
      induction r with
      | nil => intro us k hu _; cases us with
        | nil => trivial
        | cons _ _ => simp at hu
      | cons o r ih =>
        intro us k hu hx
        cases us with
        | nil => simp at hu
        | cons u us =>
          obtain ⟨hol, p, g1, g2⟩ := hx 0 o rfl
          simp only [List.getElem?_cons_zero, Option.some.injEq] at g1
          subst g1
          rw [Nat.add_zero] at hol g2
          refine ⟨fun a w G' f hc hfi hon hW E' hv => ?_, ih us (k + 1) (by simpa using hu) (fun i o' ho' => by
            have := hx (i + 1) o' (by simpa using ho')
            rw [show k + (i + 1) = k + 1 + i from by omega] at this
            simpa using this)⟩
          obtain ⟨hle, R, hR, S⟩ := hW
          rcases g2 with ⟨d, T, vz, ty, pos, af, rfl, hN, iz, hm, rfl⟩ | ⟨d, v, hd, hnk, rfl, hrun⟩
          · obtain ⟨z, hz, hvz⟩ := iz.h
            subst hvz
            refine o_allocR E' hN S hz fun b w' a' S' E2 => ?_
            obtain ⟨R2, q1, q2⟩ := hR.put (b := b) hm ha2 (fun x hx hne e => by
              obtain ⟨b1, b2, _⟩ := ha1 x hx
              obtain ⟨b3, b4, _⟩ := ha1 _ hm
              obtain ⟨o1, c1, c2⟩ := opAt b1 b2
              obtain ⟨o2, c3, c4⟩ := opAt b3 b4
              rw [e] at c2
              exact hne (hf2 _ _ _ _ _ c1 c3 c2 c4)) hfi
            refine ⟨.pointer (some ⟨b, 0, none⟩), G', Heap.le.refl _, ⟨hle, R2, q1, S'.perm ?_⟩, fun d' hd' => by cases hd'; exact E2.get d _ (by simp [lk]), E2.defers, trivial⟩
            rw [List.flatten_append, List.flatten_cons, List.flatten_append, List.cons_append, List.nil_append]
            exact (List.Perm.append_left _ q2).trans List.perm_middle
          · refine wpList_mono (fun e a' w' he => ?_) (hrun a w G' R hle S E' (fun j dj vj hj hdj hvj => ?_))
            · cases e with
              | normal =>
                obtain ⟨G2, h1, h2, h4, h5⟩ := he
                refine ⟨v, G2, h1, ⟨hle.trans h1, R, hR.keep (fun x hx => ?_) (fun x hx hfx => ?_), h2⟩, fun d' hd' => by rw [hd] at hd'; cases hd'; exact h4, h5, rfl⟩
                · have := List.all_eq_true.1 hnk x hx
                  unfold updF
                  cases e : Nat.beq x.1 k with
                  | false => rfl
                  | true => rw [e] at this; cases this
                · unfold updS
                  rw [hd, if_neg]
                  intro e
                  obtain ⟨b1, b2, _⟩ := ha1 x hx
                  obtain ⟨o1, c1, c2⟩ := opAt b1 b2
                  have : x.1 = k := hf2 _ _ _ _ _ c1 hol (c2.trans e.symm) hd
                  have h3 := List.all_eq_true.1 hnk x hx
                  rw [this] at h3
                  simp at h3
              | _ => exact he
            · obtain ⟨x, hx1, hx2⟩ := hv j dj (isV vj) (hon j hj) hdj hvj
              rw [hx1, show x = vj from hx2]
    exact key (l.take n) vs 0 e1 fun i o ho => by rw [Nat.zero_add]; exact ⟨ho, e4' i o ho⟩
  · intro a w G' f hle hall hW E' hv
    obtain ⟨_, R, hR, S⟩ := hW
    obtain ⟨L2, M2, hK, E2, S2⟩ := KA.get (f := f) (a := a) (N := N) (D := D) (L := L') (e2 G' ⟨hle⟩) (fun x hx => by
      obtain ⟨b1, b2, _⟩ := ha1 x hx
      refine hall x.1 b1 ?_
      obtain ⟨o1, c1, _⟩ := opAt b1 b2
      rw [List.getElem?_take, if_pos b1] at c1
      exact (List.getElem?_eq_some_iff.1 c1).1) hR ⟨E'.size, E'.defers, fun t u ht => by
      rcases e3 t u ht with ⟨j, h1, h2⟩ | h1
      · obtain ⟨x, hx1, hx2⟩ := hv j t (isV u) h1 h2
        rw [hx1, show x = u from hx2]
      · exact E'.get t u h1⟩ S
    exact hK.run a w E2 S2
/-- A literal in a region that draws. -/
theorem r_lit {α : Type} {K : Knd α} (xs : List α) {n e m t : Nat} {tb : Tb} {ps : Array (Nat × Operand)} {vs : List (Nat × Value)} {cs : Array Value} [h : HasTb P tb] (hN : Nat.blt d N = true) (hp : evp L ps.toList = some vs) (ht : lookP tb.sl t = some (e, m)) (hb : bldSl P e n m vs = some cs) (hR : ListR K G xs cs.toList) :
    StpR P N D w0 G0 K0 ops G L M ⟨some d, .buildSlice t n ps, ty, pos, af, none⟩ d (fun v G' => ∃ b, v = .slice (some ⟨b, 0, none⟩) n n ∧ Rd K G' (some ⟨b, 0, none⟩) xs) :=
  ⟨rfl, fun v A B hAB h => by obtain ⟨b, e, hc⟩ := h; exact ⟨b, e, hc.le hAB⟩, fun Q rest a w G1 hl E S k => by
    refine o_buildSl (enum 0 cs.toList) E hN S hp (tb_sl h ht) hb (AllIn_refl _) fun b w' a' S' E' => ?_
    obtain ⟨G', hle, hC, S2⟩ := S'.stillHead (n := cs.toList.length) (lks_enum0 cs.toList)
    exact k a' w' G' _ hle ⟨b, rfl, Rd.ofCells hC (hR.le (hl.trans hle))⟩ E' S2⟩
/-- As far as plain operations go, in a region that makes blocks. -/
theorem dga {p q : Prop} (k : q) (h : Hold q → p := by (intro k; (repeat (first | (apply DA.cons; (focus exact rfl); (intro R0; (try simp only [List.cons_append, List.nil_append]); (focus (first | (first | (apply p_pop; exact rfl; exact rfl) | (apply p_ld; exact rfl; exact rfl; exact rfl; (focus ((repeat (first | exact .here .here | exact .here (.there .here) | exact .here (.there (.there .here)) | apply InM.there)); done)); exact rfl) | (apply p_ldA; exact rfl; exact rfl; exact rfl; (focus ((repeat (first | exact .here .here | exact .here (.there .here) | exact .here (.there (.there .here)) | apply InM.there)); done)); exact rfl) | (apply p_ldRi; exact rfl; exact rfl; exact rfl; (focus ((repeat (first | exact .here .here | exact .here (.there .here) | exact .here (.there (.there .here)) | apply InM.there)); done)); omega) | (apply p_ldRx; exact rfl; exact rfl; exact rfl; (focus ((repeat (first | exact .here .here | exact .here (.there .here) | exact .here (.there (.there .here)) | apply InM.there)); done)); omega) | (apply p_ldRA; exact rfl; exact rfl; exact rfl; (focus ((repeat (first | exact .here .here | exact .here (.there .here) | exact .here (.there (.there .here)) | apply InM.there)); done)); (first | (simp only [List.length_map, List.length_replicate, List.length_set, List.length_append, List.length_cons, List.length_nil]; first | done | omega) | omega)) | (apply p_ldRg; exact rfl; exact rfl; exact rfl; (focus ((repeat (first | exact .here .here | exact .here (.there .here) | exact .here (.there (.there .here)) | apply InM.there)); done)); (focus ((repeat (first | exact GetN.here | apply GetN.there)); done))) | (apply p_ldRQ; exact rfl; exact rfl; exact rfl; (focus ((repeat (first | exact .here .here | exact .here (.there .here) | exact .here (.there (.there .here)) | apply InM.there)); done)); (focus ((repeat (first | exact DrpN.zero | apply DrpN.succ)); done)); (focus ((repeat (first | exact TakN.nil | apply TakN.cons)); done))) | (apply p_ldG; exact rfl; exact rfl; exact rfl; (focus with_reducible assumption); (focus infer_instance); omega) | (apply p_ldKi; exact rfl; exact rfl; exact rfl; (focus with_reducible assumption); (focus infer_instance); omega) | (apply p_ldKb; exact rfl; exact rfl; exact rfl; (focus with_reducible assumption); (focus infer_instance); omega) | (apply p_ldKs; exact rfl; exact rfl; exact rfl; (focus with_reducible assumption); (focus infer_instance); omega) | (apply p_ldIx; exact rfl; exact rfl; exact rfl; (focus with_reducible assumption); (focus infer_instance); exact rfl) | (apply p_ldI0; exact rfl; exact rfl; exact rfl; (focus with_reducible assumption); (focus infer_instance); exact rfl) | (apply p_ldIA; exact rfl; exact rfl; exact rfl; (focus with_reducible assumption); (focus infer_instance); exact rfl) | (apply p_ldIxV; exact rfl; exact rfl; exact rfl; (focus with_reducible assumption); (focus infer_instance); exact rfl) | (apply p_ldIx2; exact rfl; exact rfl; exact rfl; (focus with_reducible assumption); (focus infer_instance); exact rfl) | (apply p_ldOV0; exact rfl; exact rfl; exact rfl; (focus with_reducible assumption); (focus infer_instance); (focus ((repeat (first | exact Pk.here | apply Pk.there)); done)); omega) | (apply p_ldOE1; exact rfl; exact rfl; exact rfl; (focus with_reducible assumption); (focus infer_instance); (focus ((repeat (first | exact Pk.here | apply Pk.there)); done)); omega) | (apply p_ixN; exact rfl; exact rfl; exact rfl; exact rfl; (focus with_reducible assumption); exact rfl; omega) | (apply p_ixI; exact rfl; exact rfl; exact rfl; exact rfl; (focus with_reducible assumption); exact rfl; omega) | (apply p_ixO; exact rfl; exact rfl; exact rfl; exact rfl; (focus with_reducible assumption); exact rfl; omega) | (apply p_ixL; exact rfl; exact rfl; exact rfl; exact rfl; omega) | (apply p_ixLi; exact rfl; exact rfl; exact rfl; exact rfl; omega) | (apply p_ixA; exact rfl; exact rfl; exact rfl; exact rfl; omega) | (apply p_ixAi; exact rfl; exact rfl; exact rfl; exact rfl; omega) | (apply p_lenS; exact rfl; exact rfl; exact rfl) | (apply p_eqS; exact rfl; exact rfl; exact rfl) | (apply p_neS; exact rfl; exact rfl; exact rfl) | (apply p_add; exact rfl; exact rfl; exact rfl; omega) | (apply p_sub; exact rfl; exact rfl; exact rfl; omega) | (apply p_mul; exact rfl; exact rfl; exact rfl; omega) | (apply p_add64; exact rfl; exact rfl; exact rfl; omega) | (apply p_sub64; exact rfl; exact rfl; exact rfl; omega) | (apply p_mul64; exact rfl; exact rfl; exact rfl; omega) | (apply p_addQ; exact rfl; exact rfl; exact rfl) | (apply p_subQ; exact rfl; exact rfl; exact rfl) | (apply p_mulQ; exact rfl; exact rfl; exact rfl) | (apply p_rem; exact rfl; exact rfl; exact rfl; omega) | (apply p_remU; exact rfl; exact rfl; exact rfl; decide) | (apply p_quo8; exact rfl; exact rfl; exact rfl; omega) | (apply p_quo64; exact rfl; exact rfl; exact rfl; omega) | (apply p_quo; exact rfl; exact rfl; exact rfl; omega) | (apply p_eqV; exact rfl; exact rfl; exact rfl) | (apply p_neV; exact rfl; exact rfl; exact rfl) | (apply p_eqE; exact rfl; exact rfl; exact rfl) | (apply p_neE; exact rfl; exact rfl; exact rfl) | (apply p_sliceS; exact rfl; exact rfl; exact rfl; exact rfl; exact rfl; omega) | (apply p_sliceLo; exact rfl; exact rfl; exact rfl; exact rfl; omega) | (apply p_sliceHi; exact rfl; exact rfl; exact rfl; exact rfl; omega) | (apply p_lookV; exact rfl; exact rfl; exact rfl; (focus ((repeat (first | exact .here .here | exact .here (.there .here) | exact .here (.there (.there .here)) | apply InM.there)); done)); (focus with_reducible assumption)) | (apply p_look1V; exact rfl; exact rfl; exact rfl; (focus ((repeat (first | exact .here .here | exact .here (.there .here) | exact .here (.there (.there .here)) | apply InM.there)); done)); (focus with_reducible assumption)) | (apply p_shr; exact rfl; exact rfl; exact rfl; (focus (first | decide | omega | exact u64_nn _))) | (apply p_shl; exact rfl; exact rfl; exact rfl; (focus (first | decide | omega | exact u64_nn _))) | (apply p_neg; exact rfl; exact rfl) | (apply p_cpl; exact rfl; exact rfl) | (apply p_min; exact rfl; exact rfl; exact rfl) | (apply p_conv; exact rfl; exact rfl; (focus (first | exact wrap_u8 (by omega) | exact wrap_u32 (by omega) | exact wrap_u64 (by omega) | exact wrap_i64 (by omega)))) | (apply p_conv; exact rfl; exact rfl; exact rfl) | (apply p_ixV; exact rfl; exact rfl; exact rfl; omega) | (apply p_index; exact rfl; exact rfl; exact rfl; exact rfl; omega) | (apply p_slAB; exact rfl; exact rfl; exact rfl; exact rfl; exact rfl; omega) | (apply p_slA; exact rfl; exact rfl; exact rfl; exact rfl; omega) | (apply p_slB; exact rfl; exact rfl; exact rfl; exact rfl; omega) | (apply p_sliceArr; exact rfl; exact rfl; exact rfl; exact rfl) | (apply p_pickT; exact rfl; exact rfl; (focus (first | with_reducible rfl | with_reducible assumption | decide)); exact rfl) | (apply p_pickF; exact rfl; exact rfl; (focus (first | with_reducible rfl | with_reducible assumption | decide)); exact rfl) | (apply p_cat; exact rfl; exact rfl; exact rfl; omega)) | (apply p_on; exact rfl; exact rfl; (focus (first | with_reducible assumption | decide)); (first | (apply p_pop; exact rfl; exact rfl) | (apply p_ld; exact rfl; exact rfl; exact rfl; (focus ((repeat (first | exact .here .here | exact .here (.there .here) | exact .here (.there (.there .here)) | apply InM.there)); done)); exact rfl) | (apply p_ldA; exact rfl; exact rfl; exact rfl; (focus ((repeat (first | exact .here .here | exact .here (.there .here) | exact .here (.there (.there .here)) | apply InM.there)); done)); exact rfl) | (apply p_ldRi; exact rfl; exact rfl; exact rfl; (focus ((repeat (first | exact .here .here | exact .here (.there .here) | exact .here (.there (.there .here)) | apply InM.there)); done)); omega) | (apply p_ldRx; exact rfl; exact rfl; exact rfl; (focus ((repeat (first | exact .here .here | exact .here (.there .here) | exact .here (.there (.there .here)) | apply InM.there)); done)); omega) | (apply p_ldRA; exact rfl; exact rfl; exact rfl; (focus ((repeat (first | exact .here .here | exact .here (.there .here) | exact .here (.there (.there .here)) | apply InM.there)); done)); (first | (simp only [List.length_map, List.length_replicate, List.length_set, List.length_append, List.length_cons, List.length_nil]; first | done | omega) | omega)) | (apply p_ldRg; exact rfl; exact rfl; exact rfl; (focus ((repeat (first | exact .here .here | exact .here (.there .here) | exact .here (.there (.there .here)) | apply InM.there)); done)); (focus ((repeat (first | exact GetN.here | apply GetN.there)); done))) | (apply p_ldRQ; exact rfl; exact rfl; exact rfl; (focus ((repeat (first | exact .here .here | exact .here (.there .here) | exact .here (.there (.there .here)) | apply InM.there)); done)); (focus ((repeat (first | exact DrpN.zero | apply DrpN.succ)); done)); (focus ((repeat (first | exact TakN.nil | apply TakN.cons)); done))) | (apply p_ldG; exact rfl; exact rfl; exact rfl; (focus with_reducible assumption); (focus infer_instance); omega) | (apply p_ldKi; exact rfl; exact rfl; exact rfl; (focus with_reducible assumption); (focus infer_instance); omega) | (apply p_ldKb; exact rfl; exact rfl; exact rfl; (focus with_reducible assumption); (focus infer_instance); omega) | (apply p_ldKs; exact rfl; exact rfl; exact rfl; (focus with_reducible assumption); (focus infer_instance); omega) | (apply p_ldIx; exact rfl; exact rfl; exact rfl; (focus with_reducible assumption); (focus infer_instance); exact rfl) | (apply p_ldI0; exact rfl; exact rfl; exact rfl; (focus with_reducible assumption); (focus infer_instance); exact rfl) | (apply p_ldIA; exact rfl; exact rfl; exact rfl; (focus with_reducible assumption); (focus infer_instance); exact rfl) | (apply p_ldIxV; exact rfl; exact rfl; exact rfl; (focus with_reducible assumption); (focus infer_instance); exact rfl) | (apply p_ldIx2; exact rfl; exact rfl; exact rfl; (focus with_reducible assumption); (focus infer_instance); exact rfl) | (apply p_ldOV0; exact rfl; exact rfl; exact rfl; (focus with_reducible assumption); (focus infer_instance); (focus ((repeat (first | exact Pk.here | apply Pk.there)); done)); omega) | (apply p_ldOE1; exact rfl; exact rfl; exact rfl; (focus with_reducible assumption); (focus infer_instance); (focus ((repeat (first | exact Pk.here | apply Pk.there)); done)); omega) | (apply p_ixN; exact rfl; exact rfl; exact rfl; exact rfl; (focus with_reducible assumption); exact rfl; omega) | (apply p_ixI; exact rfl; exact rfl; exact rfl; exact rfl; (focus with_reducible assumption); exact rfl; omega) | (apply p_ixO; exact rfl; exact rfl; exact rfl; exact rfl; (focus with_reducible assumption); exact rfl; omega) | (apply p_ixL; exact rfl; exact rfl; exact rfl; exact rfl; omega) | (apply p_ixLi; exact rfl; exact rfl; exact rfl; exact rfl; omega) | (apply p_ixA; exact rfl; exact rfl; exact rfl; exact rfl; omega) | (apply p_ixAi; exact rfl; exact rfl; exact rfl; exact rfl; omega) | (apply p_lenS; exact rfl; exact rfl; exact rfl) | (apply p_eqS; exact rfl; exact rfl; exact rfl) | (apply p_neS; exact rfl; exact rfl; exact rfl) | (apply p_add; exact rfl; exact rfl; exact rfl; omega) | (apply p_sub; exact rfl; exact rfl; exact rfl; omega) | (apply p_mul; exact rfl; exact rfl; exact rfl; omega) | (apply p_add64; exact rfl; exact rfl; exact rfl; omega) | (apply p_sub64; exact rfl; exact rfl; exact rfl; omega) | (apply p_mul64; exact rfl; exact rfl; exact rfl; omega) | (apply p_addQ; exact rfl; exact rfl; exact rfl) | (apply p_subQ; exact rfl; exact rfl; exact rfl) | (apply p_mulQ; exact rfl; exact rfl; exact rfl) | (apply p_rem; exact rfl; exact rfl; exact rfl; omega) | (apply p_remU; exact rfl; exact rfl; exact rfl; decide) | (apply p_quo8; exact rfl; exact rfl; exact rfl; omega) | (apply p_quo64; exact rfl; exact rfl; exact rfl; omega) | (apply p_quo; exact rfl; exact rfl; exact rfl; omega) | (apply p_eqV; exact rfl; exact rfl; exact rfl) | (apply p_neV; exact rfl; exact rfl; exact rfl) | (apply p_eqE; exact rfl; exact rfl; exact rfl) | (apply p_neE; exact rfl; exact rfl; exact rfl) | (apply p_sliceS; exact rfl; exact rfl; exact rfl; exact rfl; exact rfl; omega) | (apply p_sliceLo; exact rfl; exact rfl; exact rfl; exact rfl; omega) | (apply p_sliceHi; exact rfl; exact rfl; exact rfl; exact rfl; omega) | (apply p_lookV; exact rfl; exact rfl; exact rfl; (focus ((repeat (first | exact .here .here | exact .here (.there .here) | exact .here (.there (.there .here)) | apply InM.there)); done)); (focus with_reducible assumption)) | (apply p_look1V; exact rfl; exact rfl; exact rfl; (focus ((repeat (first | exact .here .here | exact .here (.there .here) | exact .here (.there (.there .here)) | apply InM.there)); done)); (focus with_reducible assumption)) | (apply p_shr; exact rfl; exact rfl; exact rfl; (focus (first | decide | omega | exact u64_nn _))) | (apply p_shl; exact rfl; exact rfl; exact rfl; (focus (first | decide | omega | exact u64_nn _))) | (apply p_neg; exact rfl; exact rfl) | (apply p_cpl; exact rfl; exact rfl) | (apply p_min; exact rfl; exact rfl; exact rfl) | (apply p_conv; exact rfl; exact rfl; (focus (first | exact wrap_u8 (by omega) | exact wrap_u32 (by omega) | exact wrap_u64 (by omega) | exact wrap_i64 (by omega)))) | (apply p_conv; exact rfl; exact rfl; exact rfl) | (apply p_ixV; exact rfl; exact rfl; exact rfl; omega) | (apply p_index; exact rfl; exact rfl; exact rfl; exact rfl; omega) | (apply p_slAB; exact rfl; exact rfl; exact rfl; exact rfl; exact rfl; omega) | (apply p_slA; exact rfl; exact rfl; exact rfl; exact rfl; omega) | (apply p_slB; exact rfl; exact rfl; exact rfl; exact rfl; omega) | (apply p_sliceArr; exact rfl; exact rfl; exact rfl; exact rfl) | (apply p_pickT; exact rfl; exact rfl; (focus (first | with_reducible rfl | with_reducible assumption | decide)); exact rfl) | (apply p_pickF; exact rfl; exact rfl; (focus (first | with_reducible rfl | with_reducible assumption | decide)); exact rfl) | (apply p_cat; exact rfl; exact rfl; exact rfl; omega))) | (apply p_offT; exact rfl; exact rfl; exact rfl; (first | with_reducible assumption | decide)) | (apply p_offF; exact rfl; exact rfl; exact rfl; (first | with_reducible assumption | decide)) | (apply p_offu; exact rfl; exact rfl; exact rfl))))) | (apply DA.alloc; exact rfl; (focus infer_instance); (focus (first | exact .head _ | exact .tail _ (.head _) | exact .tail _ (.tail _ (.head _))))))); (first | exact DA.nil k.h | exact k.h))) : p := h ⟨k⟩
end
end Go.Proofs.YtngoaapgdfohjaaGreatDoor.X

set_option linter.unusedVariables false
set_option linter.unusedSimpArgs false
namespace Go.Proofs.YtngoaapgdfohjaaGreatDoor.X
open Go
section
variable {P : Program} {Q0 : Exit → Act → World → Prop} {N : Nat} {D : List Deferred} {w0 : World} {G0 : Heap} {K0 : List Nat} {s : List Itm} {G G1 : Heap} {L L' : List (Nat × Value)} {M M' R R0 : List Chunk} {ops all : Array Oper} {o : Oper} {d d2 : Nat} {v : Value} {rest : List Oper}
variable {ty ty2 : TypeId} {pos pos2 : String} {af af2 : Array Edge} {tb : Tb} {x y z : Operand} {t t2 T b off : Nat} {Lb : List (Nat × Value)}
/-! ## One more element -/
theorem kone_ent : KOne kEnt := by rintro G x cs rfl; rfl
theorem kone_mom : KOne kMom := by rintro G x cs rfl; rfl
theorem kone_rem : KOne kRem := by rintro G x cs rfl; rfl
/-- 'x = append(x, v)' -/
theorem w_push {α : Type} {K : Knd α} {enc : α → List Value} [e : EncK K enc] (a : α) {A : Option Addr} {c by' el m : Nat} {xs : List α} {C : Chunk} {u : Value} {cs : Array Value} [h : HasTb P tb] (hN : Nat.blt d N = true) (hN2 : Nat.blt d2 N = true) (hu : ev L y = some u) (ht : lookP tb.sl t = some (el, m)) (hb : bldSl P el 1 m [(0, u)] = some cs) (hcs : cs.toList = enc a)
    (hx : ev ((d, .slice (some ⟨0, 0, none⟩) 1 1) :: L) x = some (.slice A xs.length c)) (hxd : x ≠ .tmp d) (hO : X.Own K T G1 A c xs C) (hl : LeT G1 G) (hp : Pk C M R) (hta : lookP tb.ap t2 = some (T, K.sz, by')) (h1 : KOne K) (hbd : (xs.length + 1) * by' ≤ 140737488355328 ∧ xs.length + 1 ≤ 9223372036854775807)
    (k : ∀ b A' c' C' G', Le1 G G' → X.Own K T G' A' c' (xs ++ [a]) C' → W P Q0 N D w0 G0 K0 (.ops all rest :: s) G' ((d2, .slice A' (xs ++ [a]).length c') :: (d, .slice (some ⟨b, 0, none⟩) 1 1) :: L) (C' :: R)) :
    W P Q0 N D w0 G0 K0 (.ops all (⟨some d, .buildSlice t 1 #[(0, y)], ty, pos, af, none⟩ :: ⟨some d2, .call ⟨.builtin .append, #[x, .tmp d], #[t2, t2]⟩, ty2, pos2, af2, none⟩ :: rest) :: s) G L M := by
  have hsz : (enc a).length = K.sz := K.len (e.r G a)
  refine w_lit (K := K) [a] (vs := [(0, u)]) hN (by simp only [evp, hu]) ht hb ⟨by rw [hcs, List.take_of_length_le (by omega)]; exact e.r _ _, by rw [hcs, List.drop_of_length_le (by omega)]; rfl⟩ fun b G' hle hR => ?_
  have hev : ∀ q : Value, x ≠ .tmp d → ev ((d, q) :: L) x = ev L x := fun q hne => by
    cases x with
    | tmp t' =>
      simp only [ev]
      have : Nat.beq d t' = false := by
        cases hq : Nat.beq d t' with
        | false => rfl
        | true => exact absurd (by rw [Nat.eq_of_beq_eq_true hq]) hne
      simp only [lk, this]
    | _ => rfl
  have hl' : LeT G1 G' := @LeT.step G1 G G' hle hl
  have hy2 : ev ((d, .slice (some ⟨b, 0, none⟩) 1 1) :: L) (.tmp d) = some (.slice (some ⟨b, 0, none⟩) [a].length 1) := by
    show lk ((d, _) :: L) d = _
    have : Nat.beq d d = true := Nat.beq_refl d
    simp only [lk, this]
    rfl
  refine w_app (ys := [a]) hN2 (by rw [hev _ hxd]; rw [hev _ hxd] at hx; exact hx) hO hl' hp hy2 hR (.refl _) hta h1 hbd fun A' c' C' hO' => ?_
  exact k b A' c' C' G' hle (hO'.le (Heap.le.refl _))
/-- A slice literal, as a list of one's own. -/
theorem w_litO {α : Type} {K : Knd α} (xs : List α) {n e : Nat} {ps : Array (Nat × Operand)} {vs : List (Nat × Value)} {cs : Array Value} [h : HasTb P tb] (hN : Nat.blt d N = true) (hp : evp L ps.toList = some vs) (ht : lookP tb.sl t = some (e, K.sz)) (hb : bldSl P e n K.sz vs = some cs) (hR : ListR K G xs cs.toList) (hn : xs.length = n) (h1 : cs.toList.all one = true) (hz : cs.toList.length = n * K.sz) (hm : n ≤ 1000000)
    (k : ∀ A c C, X.Own K e G A c xs C → W P Q0 N D w0 G0 K0 (.ops all rest :: s) G ((d, .slice A xs.length c) :: L) (C :: M)) : W P Q0 N D w0 G0 K0 (.ops all (⟨some d, .buildSlice t n ps, ty, pos, af, none⟩ :: rest) :: s) G L M :=
  W.of fun a w E S => o_buildO E hN S hp (tb_sl h ht) hb hR hn h1 hz hm fun A c C w' a' S' hO E' => (k A c C hO).run a' w' E' S'
end
end Go.Proofs.YtngoaapgdfohjaaGreatDoor.X

set_option linter.unusedVariables false
set_option linter.unusedSimpArgs false
set_option maxHeartbeats 1000000
namespace Go.Proofs.YtngoaapgdfohjaaGreatDoor.X
open Go
/-! ## Regions that draw, and write -/
section
variable {P : Program} {Q0 : Exit → Act → World → Prop} {N : Nat} {D : List Deferred} {w0 : World} {G0 : Heap} {K0 : List Nat} {s : List Itm} {G G1 : Heap} {L L' : List (Nat × Value)} {M M' R0 : List Chunk} {ops all : Array Oper} {o : Oper} {d : Nat} {v : Value} {rest : List Oper}
variable {ty : TypeId} {pos : String} {af : Array Edge}
/-- One operation that writes. -/
structure StE (P : Program) (N : Nat) (D : List Deferred) (w0 : World) (G0 : Heap) (K0 : List Nat) (ops : Array Oper) (G : Heap) (L : List (Nat × Value)) (M M' : List Chunk) (o : Oper) : Prop where
  dst : o.dst = none
  run : ∀ (Q : Exit → Act → World → Prop) (rest : List Oper) (a : Act) (w : World) (G1 : Heap), Heap.le G G1 → Env a N D L → St w0 G0 K0 G1 w M →
    (∀ a' w' G2, Heap.le G1 G2 → Env a' N D L → St w0 G0 K0 G2 w' M' → wpList P ops Q rest a' w') → wpList P ops Q (o :: rest) a w
theorem StE.to {M2 : List Chunk} (h : StE P N D w0 G0 K0 ops G L M M' o) (e : M' = M2) : StE P N D w0 G0 K0 ops G L M M2 o := e ▸ h
/-- The walk of a region that draws and writes: memory is told by what is done. -/
inductive DE (P : Program) (N : Nat) (D : List Deferred) (w0 : World) (G0 : Heap) (K0 : List Nat) (ops : Array Oper) (G : Heap) (Mf : (Nat → Bool) → List Chunk) (Kp : List (Nat × Value) → Prop) : Nat → List Oper → List (Nat × Value) → Prop where
  | nil {k : Nat} {L : List (Nat × Value)} (h : Kp L) : DE P N D w0 G0 K0 ops G Mf Kp k [] L
  | cons {k : Nat} {o : Oper} {rest : List Oper} {L : List (Nat × Value)} {d : Nat} {v : Value} (hk : ∀ f, Mf (updF f k) = Mf f) (hd : o.dst = some d) (h : ∀ f, Stp P N D w0 G0 K0 ops G (resE L (tmpsOf ops o)) (Mf f) o d v) (c : DE P N D w0 G0 K0 ops G Mf Kp (k + 1) rest ((d, v) :: L)) : DE P N D w0 G0 K0 ops G Mf Kp k (o :: rest) L
  | eff {k : Nat} {o : Oper} {rest : List Oper} {L : List (Nat × Value)} (hd : o.dst = none) (h : ∀ f, f k = false → (∀ j, (ons o).elem j = true → f j = true) → StE P N D w0 G0 K0 ops G (resE L (tmpsOf ops o)) (Mf f) (Mf (updF f k)) o) (c : DE P N D w0 G0 K0 ops G Mf Kp (k + 1) rest L) : DE P N D w0 G0 K0 ops G Mf Kp k (o :: rest) L
theorem DE.told (Q : Exit → Act → World → Prop) {l : List Oper} {Mf : (Nat → Bool) → List Chunk} {Kp : List (Nat × Value) → Prop} {L0 : List (Nat × Value)} (hr : readsOk l l = true) :
    ∀ (rest pre : List Oper) (vsp : List (Value → Heap → Prop)) (Lk : List (Nat × Value)), l = pre ++ rest → vsp.length = pre.length →
      (∀ t u, lk Lk t = some u → (∃ j, j < pre.length ∧ dstOf l.toArray j = some t ∧ vsp[j]? = some (isV u)) ∨ lk L0 t = some u) →
      DE P N D w0 G0 K0 l.toArray G Mf Kp pre.length rest Lk →
      ∃ (vsr : List (Value → Heap → Prop)) (L' : List (Nat × Value)), vsr.length = rest.length ∧ Kp L' ∧
        (∀ t u, lk L' t = some u → (∃ j, dstOf l.toArray j = some t ∧ (vsp ++ vsr)[j]? = some (isV u)) ∨ lk L0 t = some u) ∧
        ∀ (i : Nat) (o : Oper), rest[i]? = some o → ∃ p, vsr[i]? = some p ∧ (∀ v A B, Heap.le A B → p v A → p v B) ∧ ∀ (a : Act) (w : World) (G' : Heap) (f : Nat → Bool), f (pre.length + i) = false → (∀ j, (ons o).elem j = true → f j = true) → Heap.le G G' → St w0 G0 K0 G' w (Mf f) → Env a N D L0 →
          (∀ j dj q, f j = true → dstOf l.toArray j = some dj → (vsp ++ vsr)[j]? = some q → ∃ v, a.tmps[dj]? = some v ∧ q v G') →
          wpList P l.toArray (Exit.then (fun a' w' => ∃ v G2, Heap.le G' G2 ∧ St w0 G0 K0 G2 w' (Mf (updF f (pre.length + i))) ∧ (∀ d, o.dst = some d → a'.tmps[d]? = some v) ∧ a'.defers = D ∧ p v G2) Q) [o] a w
  | [], pre, vsp, Lk, hl, hv, hi, h => by
    cases h with
    | nil h => exact ⟨[], Lk, rfl, h, fun t u ht => (hi t u ht).imp (fun ⟨j, _, h1, h2⟩ => ⟨j, h1, by simpa using h2⟩) id, fun i o ho => by simp at ho⟩
  | o :: rest, pre, vsp, Lk, hl, hv, hi, h => by
    have hin : o ∈ l := by rw [hl]; simp
    have hlt : pre.length < l.length := by rw [hl]; simp
    have envOf : ∀ (vsr : List (Value → Heap → Prop)) (a : Act) (w : World) (G' : Heap) (f : Nat → Bool), Env a N D L0 → (∀ j, (ons o).elem j = true → f j = true) → (∀ j dj q, f j = true → dstOf l.toArray j = some dj → (vsp ++ vsr)[j]? = some q → ∃ v, a.tmps[dj]? = some v ∧ q v G') → Env a N D (resE Lk (tmpsOf l.toArray o)) := by
      intro vsr a w G' f E ho hw
      refine ⟨E.size, E.defers, fun t u ht => ?_⟩
      obtain ⟨m1, m2⟩ := resE_get ht
      rcases hi t u m2 with ⟨j, h0, h1, h2⟩ | h1
      · obtain ⟨v, hv1, hv2⟩ := hw j t (isV u) (ho j (readsOk_spec hr hin m1 (by omega) h1)) h1 (by rw [List.getElem?_append_left (by omega)]; exact h2)
        rw [hv1, show v = u from hv2]
      · exact E.get t u h1
    have hk : l[pre.length]? = some o := by rw [hl]; simp
    cases h with
    | @cons _ _ _ _ d v hkm hd h k =>
      have hdk : dstOf l.toArray pre.length = some d := by unfold dstOf; simp [hk, hd]
      obtain ⟨vsr, L', e1, e2, e3, e4⟩ := DE.told Q hr rest (pre ++ [o]) (vsp ++ [isV v]) ((d, v) :: Lk) (by rw [hl]; simp) (by simp [hv]) (by
        intro t u ht
        rcases lk_cons ht with ⟨rfl, rfl⟩ | ⟨_, ht⟩
        · exact .inl ⟨pre.length, by simp, hdk, by simp [← hv]⟩
        · refine (hi t u ht).imp (fun ⟨j, h0, h1, h2⟩ => ⟨j, by simp; omega, h1, ?_⟩) id
          rw [List.getElem?_append_left (by omega)]; exact h2) (by simpa using k)
      refine ⟨isV v :: vsr, L', by simp [e1], e2, fun t u ht => by simpa using e3 t u ht, fun i o' ho' => ?_⟩
      cases i with
      | succ i =>
        obtain ⟨v', g1, g0, g2⟩ := e4 i o' (by simpa using ho')
        refine ⟨v', by simpa using g1, g0, fun a w G' f h1 h2 h3 h4 h5 h6 => ?_⟩
        have := g2 a w G' f (by simpa [Nat.add_assoc, Nat.add_comm 1 i] using h1) h2 h3 h4 h5 (by simpa using h6)
        simpa [Nat.add_assoc, Nat.add_comm 1 i] using this
      | zero =>
        simp only [List.getElem?_cons_zero, Option.some.injEq] at ho'
        subst ho'
        refine ⟨isV v, rfl, fun _ _ _ _ h => h, fun a w G' f hf ho hle S E hw => ?_⟩
        exact (h f).run _ [] a w G' hle (envOf _ a w G' f E ho hw) S (fun a' w' G2 h2 E2 S2 => ⟨v, G2, h2, by rw [Nat.add_zero, hkm]; exact S2, (fun d' hd' => by rw [hd] at hd'; cases hd'; exact E2.get d v (by simp [lk])), E2.defers, rfl⟩)
    | @eff _ _ _ _ hd h k =>
      obtain ⟨vsr, L', e1, e2, e3, e4⟩ := DE.told Q hr rest (pre ++ [o]) (vsp ++ [fun _ _ => True]) Lk (by rw [hl]; simp) (by simp [hv]) (by
        intro t u ht
        refine (hi t u ht).imp (fun ⟨j, h0, h1, h2⟩ => ⟨j, by simp; omega, h1, ?_⟩) id
        rw [List.getElem?_append_left (by omega)]; exact h2) (by simpa using k)
      refine ⟨(fun _ _ => True) :: vsr, L', by simp [e1], e2, fun t u ht => by simpa using e3 t u ht, fun i o' ho' => ?_⟩
      cases i with
      | succ i =>
        obtain ⟨v', g1, g0, g2⟩ := e4 i o' (by simpa using ho')
        refine ⟨v', by simpa using g1, g0, fun a w G' f h1 h2 h3 h4 h5 h6 => ?_⟩
        have := g2 a w G' f (by simpa [Nat.add_assoc, Nat.add_comm 1 i] using h1) h2 h3 h4 h5 (by simpa using h6)
        simpa [Nat.add_assoc, Nat.add_comm 1 i] using this
      | zero =>
        simp only [List.getElem?_cons_zero, Option.some.injEq] at ho'
        subst ho'
        refine ⟨fun _ _ => True, rfl, fun _ _ _ _ h => h, fun a w G' f hf ho hle S E hw => ?_⟩
        exact (h f hf ho).run _ [] a w G' hle (envOf _ a w G' f E ho hw) S (fun a' w' G2 h2 E2 S2 => ⟨.bool true, G2, h2, S2, (fun d' hd' => by rw [hd] at hd'; cases hd'), E2.defers, trivial⟩)
theorem w_de {id : Nat} {l : List Oper} (Mf : (Nat → Bool) → List Chunk) [m : Mix P] (h0 : Mf (fun _ => false) = M) (hM : ∀ f, (∀ i, i < l.length → f i = true) → Mf f = M') (hb : (backOk l.toArray && readsOk l l) = true)
    (h : DE P N D w0 G0 K0 l.toArray G Mf (fun L' => ∀ G', Le1 G G' → W P Q0 N D w0 G0 K0 s G' L' M') 0 l L) (hf : freshF l L [] = true := by exact rfl) : W P Q0 N D w0 G0 K0 (.co (.region id l.toArray true) :: s) G L M := by
  refine W.of fun a w E S => ?_
  rw [Bool.and_eq_true] at hb
  subst h0
  obtain ⟨vs, L', e1, e2, e3, e4⟩ := DE.told (aft P Q0 s) hb.2 l [] [] L (by simp) rfl (fun t u h => .inr h) h
  simp only [List.nil_append, List.length_nil, Nat.zero_add] at e3 e4
  refine drawnF (fun f G' w => Heap.le G G' ∧ St w0 G0 K0 G' w (Mf f)) vs [] m.h hb.1 E ⟨Heap.le.refl _, S.drew⟩ hf (fun _ _ _ h => by cases h) (fun p hp v A B hAB h => ?_) ?_ ?_
  · obtain ⟨i, hi⟩ := List.mem_iff_getElem?.1 hp
    have hi' : i < l.length := by rw [← e1]; exact (List.getElem?_eq_some_iff.1 hi).1
    obtain ⟨q, g1, g0, _⟩ := e4 i l[i] (List.getElem?_eq_getElem hi')
    rw [hi] at g1
    cases g1
    exact g0 v A B hAB h
  · have key : ∀ (r : List Oper) (us : List (Value → Heap → Prop)) (k : Nat), us.length = r.length → (∀ (i : Nat) (o : Oper), r[i]? = some o → ∃ p, us[i]? = some p ∧ (∀ v A B, Heap.le A B → p v A → p v B) ∧ ∀ (a : Act) (w : World) (G' : Heap) (f : Nat → Bool), f (k + i) = false → (∀ j, (ons o).elem j = true → f j = true) → Heap.le G G' → St w0 G0 K0 G' w (Mf f) → Env a N D L →
          (∀ j dj q, f j = true → dstOf l.toArray j = some dj → vs[j]? = some q → ∃ v, a.tmps[dj]? = some v ∧ q v G') →
          wpList P l.toArray (Exit.then (fun a' w' => ∃ v G2, Heap.le G' G2 ∧ St w0 G0 K0 G2 w' (Mf (updF f (k + i))) ∧ (∀ d, o.dst = some d → a'.tmps[d]? = some v) ∧ a'.defers = D ∧ p v G2) (aft P Q0 s)) [o] a w) →
        AllF (StepF P (aft P Q0 s) N D L (fun f G' w => Heap.le G G' ∧ St w0 G0 K0 G' w (Mf f)) l vs []) k r us := by
      intro r
      induction r with
      | nil => intro us k hu _; cases us with
        | nil => trivial
        | cons _ _ => simp at hu
      | cons o r ih =>
        intro us k hu hx
        cases us with
        | nil => simp at hu
        | cons u us =>
          obtain ⟨v, g1, _, g2⟩ := hx 0 o rfl
          simp only [List.getElem?_cons_zero, Option.some.injEq] at g1
          subst g1
          refine ⟨fun a w G' f hc hfi hon hW E' hv hO => ?_, ih us (k + 1) (by simpa using hu) (fun i o' ho' => by have := hx (i + 1) o' (by simpa using ho'); simpa [Nat.add_assoc, Nat.add_comm 1 i] using this)⟩
          refine wpList_mono (fun e a' w' he => ?_) (g2 a w G' f (by simpa using hfi) hon hW.1 hW.2 E' (fun j dj q hj hdj hq => hv j dj q hj hdj hq))
          cases e with
          | normal =>
            obtain ⟨v, G2, h1, h2, h3, h4, h5⟩ := he
            exact ⟨v, G2, h1, ⟨hW.1.trans h1, by simpa using h2⟩, h3, h4, h5⟩
          | _ => exact he
    exact key l vs 0 e1 (fun i o ho => by have := e4 i o ho; simpa using this)
  · intro a w G' f hle hall hW E' hv
    refine (e2 G' ⟨hle⟩).run a w ⟨E'.size, E'.defers, fun t u ht => ?_⟩ (by rw [← hM f hall]; exact hW.2)
    rcases e3 t u ht with ⟨j, h1, h2⟩ | h1
    · obtain ⟨x, hx1, hx2⟩ := hv j t (isV u) h1 h2
      rw [hx1, show x = u from hx2]
    · exact E'.get t u h1
/-! ## What is written -/
variable {tb : Tb} {x y z : Operand} {t T b off : Nat} {Lb : List (Nat × Value)}
theorem e_stR {vs : List Value} {M' : List Chunk} [h : HasTb P tb] (hx : ev L x = some (.pointer (some ⟨b, off, none⟩))) (hy : ev L y = some v) (h1 : one v = true) (ht : tb.sc.elem t = true) (hm : RepM b (Arr T vs) (Arr T (vs.set off v)) M M') (hu : off < vs.length) : StE P N D w0 G0 K0 ops G L M M' ⟨none, .store t x y, ty, pos, af, none⟩ :=
  ⟨rfl, fun Q rest a w G1 hl E S k => o_stR E S hx hy h1 (tb_sc h ht) hm hu fun w' S' => k a w' G1 (Heap.le.refl _) E S'⟩
theorem e_stRi {q : IntKind} {r : Int} {xs : List Int} {j : Nat} {M' : List Chunk} [h : HasTb P tb] (hx : ev L x = some (.pointer (some ⟨b, 0 + j * 1, none⟩))) (hy : ev L y = some (.int q r)) (ht : tb.sc.elem t = true) (hm : RepM b (Arr T (xs.map (Value.int q))) (Arr T ((xs.set j r).map (Value.int q))) M M') (hu : j < xs.length) : StE P N D w0 G0 K0 ops G L M M' ⟨none, .store t x y, ty, pos, af, none⟩ :=
  e_stR hx hy rfl ht (by rw [Nat.zero_add, Nat.mul_one, ← List.map_set]; exact hm) (by simpa using hu)
theorem e_st {M' : List Chunk} {Lb' : List (Nat × Value)} [h : HasTb P tb] (hx : ev L x = some (.pointer (some ⟨b, off, none⟩))) (hy : ev L y = some v) (ht : tb.sc.elem t = true) (hm : RepM b (Cells T Lb) (Cells T Lb') M M') (h1 : one v = true) (hU : Upd Lb off v Lb') : StE P N D w0 G0 K0 ops G L M M' ⟨none, .store t x y, ty, pos, af, none⟩ :=
  ⟨rfl, fun Q rest a w G1 hl E S k => by
    obtain ⟨A, X, Y, B, rfl, rfl⟩ := hm.split
    obtain ⟨u, hu⟩ := hU.had
    refine o_st (M' := A ++ (X ++ (b, Cells T ((off, v) :: Lb)) :: Y) :: B) E S hx hy h1 (tb_sc h ht) (RepM.mk' A X Y B) hu fun w' S' => k a w' G1 (Heap.le.refl _) E ?_
    exact S'.turnP (RepM.mk' A X Y B) fun o ⟨c, e, hc⟩ => ⟨c, e, fun t x ht => hc t x (hU.look t x ht)⟩⟩
theorem e_updD {k : Nat} [i : DM P t k] {f f' : DVal → Option Int} {m : Operand} {c : DVal} {u : Int} {M' : List Chunk} (h1 : ev L m = some (.map (some b))) (h2 : ev L x = some (kvD c)) (h3 : ev L y = some (.int .i64 u)) (hf : upd f c (some u) = f') (hm : RepM b (MapF P k kvD vvI f) (MapF P k kvD vvI f') M M') (hd : I64 c.d) (hw : c.v.Wf) : StE P N D w0 G0 K0 ops G L M M' ⟨none, .mapUpdate t m x y, ty, pos, af, none⟩ :=
  ⟨rfl, fun Q rest a w G1 hl E S kk => by
    obtain ⟨e, h5, h6⟩ := i.ht
    subst hf
    exact o_mapUpd i.K h5 kvD_inj E rfl S hm h1 h2 h3 rfl rfl (key_dval i.hk hd hw) fun w' S' => kk a w' G1 (Heap.le.refl _) E S'⟩
/-- A block told cell by cell that isn't written any more. -/
theorem w_stillC {vs : List Value} {n : Nat} {R : List Chunk} (b : Nat) (hp : Pk [(b, Cells T Lb)] M R) (hv : lks Lb 0 n = some vs) (k : ∀ G', Le1 G G' → CellsAt G' b 0 vs → W P Q0 N D w0 G0 K0 s G' L R) : W P Q0 N D w0 G0 K0 s G L M := W.of fun a w E S => by
  obtain ⟨G', hle, hC, S2⟩ := (S.perm (flat_perm hp.perm).symm).stillHead (n := n) hv
  exact (k G' ⟨hle⟩ hC).run a w E S2
/-! ## Slices cut -/
theorem sl_cut {α : Type} {K : Knd α} {G : Heap} {A : Option Addr} {xs : List α} (hR : Rd K G A xs) {c lo hi : Nat} (h1 : lo ≤ hi) (h2 : hi ≤ xs.length) (hc : xs.length ≤ c) : Rd K G (if c = lo then A else A.map (·.add (lo * K.sz))) ((xs.drop lo).take (hi - lo)) := by
  by_cases hck : c = lo
  · left
    apply List.eq_nil_of_length_eq_zero
    rw [List.length_take]; omega
  · rw [if_neg hck]
    rcases hR with rfl | ⟨b, o, rfl, hR⟩
    · left; simp
    · have := (Rd.drop hR lo).take (hi - lo)
      simpa [addAt] using this
theorem run_slLH {P : Program} {t e m n c lo hi : Nat} {x y z : Operand} {A : Option Addr} {q q' : IntKind} {a : Act} {w : World} {N : Nat} {D : List Deferred} {L : List (Nat × Value)} (hE : Env a N D L) (hx : ev L x = some (.slice A n c)) (hy : ev L y = some (.int q (lo : Int))) (hz : ev L z = some (.int q' (hi : Int))) (ht : slOf P t = some (e, m)) (h1 : lo ≤ hi) (h2 : hi ≤ c) (dd : Nat) (ty : TypeId) (pos : String) (af : Array Edge) :
    (execOp a.eval ⟨some dd, .slice t x (some y) (some z) none, ty, pos, af, none⟩).run P w = .ok (.value (.slice (if c = lo then A else A.map (·.add (lo * m))) (hi - lo) (c - lo))) w := by
  obtain ⟨inf, hu, hi', hs⟩ := sl_spec ht
  subst hs
  have h3 : lo ≤ c := by omega
  simp [execOp, hE.eval hx, hE.eval hy, hE.eval hz, Instr.sliceAt, Instr.slice, Instr.sliceBounds, Instr.sliceBound, asIntOf, run_underlying hu, run_sizeOf' hi', h1, h2, h3]
theorem r_slLH {α : Type} {K : Knd α} {t e m n c lo hi : Nat} {A : Option Addr} {xs : List α} {q q' : IntKind} [h : HasTb P tb] (hN : Nat.blt d N = true) (hx : ev L x = some (.slice A n c)) (hy : ev L y = some (.int q (lo : Int))) (hz : ev L z = some (.int q' (hi : Int))) (ht : lookP tb.sl t = some (e, m)) (hm : m = K.sz) (hR : Rd K G1 A xs) (hl : LeT G1 G) (hn : n = xs.length) (hc : n ≤ c) (hb : lo ≤ hi ∧ hi ≤ n) :
    StpR P N D w0 G0 K0 ops G L M ⟨some d, .slice t x (some y) (some z) none, ty, pos, af, none⟩ d (fun v G' => ∃ A' c', v = .slice A' (hi - lo) c' ∧ hi - lo ≤ c' ∧ Rd K G' A' ((xs.drop lo).take (hi - lo))) :=
  ⟨rfl, fun v A B hAB ⟨A', c', h1, h2, h3⟩ => ⟨A', c', h1, h2, h3.le hAB⟩, fun Q rest a w G2 hl2 E S k => by
    subst hm; subst hn
    refine op_val rfl rfl E hN (run_slLH E hx hy hz (tb_sl h ht) hb.1 (by omega) d ty pos af) fun a' E' => k a' w G2 _ (Heap.le.refl _) ⟨_, _, rfl, by omega, sl_cut (hR.le (hl.le.trans hl2)) hb.1 hb.2 hc⟩ E' S⟩
end
/-! ## Its script -/
theorem deg {p q : Prop} (k : q) (h : Hold q → p := by (intro k; (repeat (apply DE.cons; (focus (intro f; exact rfl)); (focus exact rfl); (focus (intro f; (focus (first | (first | (apply p_pop; exact rfl; exact rfl) | (apply p_ld; exact rfl; exact rfl; exact rfl; (focus ((repeat (first | exact .here .here | exact .here (.there .here) | exact .here (.there (.there .here)) | apply InM.there)); done)); exact rfl) | (apply p_ldA; exact rfl; exact rfl; exact rfl; (focus ((repeat (first | exact .here .here | exact .here (.there .here) | exact .here (.there (.there .here)) | apply InM.there)); done)); exact rfl) | (apply p_ldRi; exact rfl; exact rfl; exact rfl; (focus ((repeat (first | exact .here .here | exact .here (.there .here) | exact .here (.there (.there .here)) | apply InM.there)); done)); omega) | (apply p_ldRx; exact rfl; exact rfl; exact rfl; (focus ((repeat (first | exact .here .here | exact .here (.there .here) | exact .here (.there (.there .here)) | apply InM.there)); done)); omega) | (apply p_ldRA; exact rfl; exact rfl; exact rfl; (focus ((repeat (first | exact .here .here | exact .here (.there .here) | exact .here (.there (.there .here)) | apply InM.there)); done)); (first | (simp only [List.length_map, List.length_replicate, List.length_set, List.length_append, List.length_cons, List.length_nil]; first | done | omega) | omega)) | (apply p_ldRg; exact rfl; exact rfl; exact rfl; (focus ((repeat (first | exact .here .here | exact .here (.there .here) | exact .here (.there (.there .here)) | apply InM.there)); done)); (focus ((repeat (first | exact GetN.here | apply GetN.there)); done))) | (apply p_ldRQ; exact rfl; exact rfl; exact rfl; (focus ((repeat (first | exact .here .here | exact .here (.there .here) | exact .here (.there (.there .here)) | apply InM.there)); done)); (focus ((repeat (first | exact DrpN.zero | apply DrpN.succ)); done)); (focus ((repeat (first | exact TakN.nil | apply TakN.cons)); done))) | (apply p_ldG; exact rfl; exact rfl; exact rfl; (focus with_reducible assumption); (focus infer_instance); omega) | (apply p_ldKi; exact rfl; exact rfl; exact rfl; (focus with_reducible assumption); (focus infer_instance); omega) | (apply p_ldKb; exact rfl; exact rfl; exact rfl; (focus with_reducible assumption); (focus infer_instance); omega) | (apply p_ldKs; exact rfl; exact rfl; exact rfl; (focus with_reducible assumption); (focus infer_instance); omega) | (apply p_ldIx; exact rfl; exact rfl; exact rfl; (focus with_reducible assumption); (focus infer_instance); exact rfl) | (apply p_ldI0; exact rfl; exact rfl; exact rfl; (focus with_reducible assumption); (focus infer_instance); exact rfl) | (apply p_ldIA; exact rfl; exact rfl; exact rfl; (focus with_reducible assumption); (focus infer_instance); exact rfl) | (apply p_ldIxV; exact rfl; exact rfl; exact rfl; (focus with_reducible assumption); (focus infer_instance); exact rfl) | (apply p_ldIx2; exact rfl; exact rfl; exact rfl; (focus with_reducible assumption); (focus infer_instance); exact rfl) | (apply p_ldOV0; exact rfl; exact rfl; exact rfl; (focus with_reducible assumption); (focus infer_instance); (focus ((repeat (first | exact Pk.here | apply Pk.there)); done)); omega) | (apply p_ldOE1; exact rfl; exact rfl; exact rfl; (focus with_reducible assumption); (focus infer_instance); (focus ((repeat (first | exact Pk.here | apply Pk.there)); done)); omega) | (apply p_ixN; exact rfl; exact rfl; exact rfl; exact rfl; (focus with_reducible assumption); exact rfl; omega) | (apply p_ixI; exact rfl; exact rfl; exact rfl; exact rfl; (focus with_reducible assumption); exact rfl; omega) | (apply p_ixO; exact rfl; exact rfl; exact rfl; exact rfl; (focus with_reducible assumption); exact rfl; omega) | (apply p_ixL; exact rfl; exact rfl; exact rfl; exact rfl; omega) | (apply p_ixLi; exact rfl; exact rfl; exact rfl; exact rfl; omega) | (apply p_ixA; exact rfl; exact rfl; exact rfl; exact rfl; omega) | (apply p_ixAi; exact rfl; exact rfl; exact rfl; exact rfl; omega) | (apply p_lenS; exact rfl; exact rfl; exact rfl) | (apply p_eqS; exact rfl; exact rfl; exact rfl) | (apply p_neS; exact rfl; exact rfl; exact rfl) | (apply p_add; exact rfl; exact rfl; exact rfl; omega) | (apply p_sub; exact rfl; exact rfl; exact rfl; omega) | (apply p_mul; exact rfl; exact rfl; exact rfl; omega) | (apply p_add64; exact rfl; exact rfl; exact rfl; omega) | (apply p_sub64; exact rfl; exact rfl; exact rfl; omega) | (apply p_mul64; exact rfl; exact rfl; exact rfl; omega) | (apply p_addQ; exact rfl; exact rfl; exact rfl) | (apply p_subQ; exact rfl; exact rfl; exact rfl) | (apply p_mulQ; exact rfl; exact rfl; exact rfl) | (apply p_rem; exact rfl; exact rfl; exact rfl; omega) | (apply p_remU; exact rfl; exact rfl; exact rfl; decide) | (apply p_quo8; exact rfl; exact rfl; exact rfl; omega) | (apply p_quo64; exact rfl; exact rfl; exact rfl; omega) | (apply p_quo; exact rfl; exact rfl; exact rfl; omega) | (apply p_eqV; exact rfl; exact rfl; exact rfl) | (apply p_neV; exact rfl; exact rfl; exact rfl) | (apply p_eqE; exact rfl; exact rfl; exact rfl) | (apply p_neE; exact rfl; exact rfl; exact rfl) | (apply p_sliceS; exact rfl; exact rfl; exact rfl; exact rfl; exact rfl; omega) | (apply p_sliceLo; exact rfl; exact rfl; exact rfl; exact rfl; omega) | (apply p_sliceHi; exact rfl; exact rfl; exact rfl; exact rfl; omega) | (apply p_lookV; exact rfl; exact rfl; exact rfl; (focus ((repeat (first | exact .here .here | exact .here (.there .here) | exact .here (.there (.there .here)) | apply InM.there)); done)); (focus with_reducible assumption)) | (apply p_look1V; exact rfl; exact rfl; exact rfl; (focus ((repeat (first | exact .here .here | exact .here (.there .here) | exact .here (.there (.there .here)) | apply InM.there)); done)); (focus with_reducible assumption)) | (apply p_shr; exact rfl; exact rfl; exact rfl; (focus (first | decide | omega | exact u64_nn _))) | (apply p_shl; exact rfl; exact rfl; exact rfl; (focus (first | decide | omega | exact u64_nn _))) | (apply p_neg; exact rfl; exact rfl) | (apply p_cpl; exact rfl; exact rfl) | (apply p_min; exact rfl; exact rfl; exact rfl) | (apply p_conv; exact rfl; exact rfl; (focus (first | exact wrap_u8 (by omega) | exact wrap_u32 (by omega) | exact wrap_u64 (by omega) | exact wrap_i64 (by omega)))) | (apply p_conv; exact rfl; exact rfl; exact rfl) | (apply p_ixV; exact rfl; exact rfl; exact rfl; omega) | (apply p_index; exact rfl; exact rfl; exact rfl; exact rfl; omega) | (apply p_slAB; exact rfl; exact rfl; exact rfl; exact rfl; exact rfl; omega) | (apply p_slA; exact rfl; exact rfl; exact rfl; exact rfl; omega) | (apply p_slB; exact rfl; exact rfl; exact rfl; exact rfl; omega) | (apply p_sliceArr; exact rfl; exact rfl; exact rfl; exact rfl) | (apply p_pickT; exact rfl; exact rfl; (focus (first | with_reducible rfl | with_reducible assumption | decide)); exact rfl) | (apply p_pickF; exact rfl; exact rfl; (focus (first | with_reducible rfl | with_reducible assumption | decide)); exact rfl) | (apply p_cat; exact rfl; exact rfl; exact rfl; omega)) | (apply p_on; exact rfl; exact rfl; (focus (first | with_reducible assumption | decide)); (first | (apply p_pop; exact rfl; exact rfl) | (apply p_ld; exact rfl; exact rfl; exact rfl; (focus ((repeat (first | exact .here .here | exact .here (.there .here) | exact .here (.there (.there .here)) | apply InM.there)); done)); exact rfl) | (apply p_ldA; exact rfl; exact rfl; exact rfl; (focus ((repeat (first | exact .here .here | exact .here (.there .here) | exact .here (.there (.there .here)) | apply InM.there)); done)); exact rfl) | (apply p_ldRi; exact rfl; exact rfl; exact rfl; (focus ((repeat (first | exact .here .here | exact .here (.there .here) | exact .here (.there (.there .here)) | apply InM.there)); done)); omega) | (apply p_ldRx; exact rfl; exact rfl; exact rfl; (focus ((repeat (first | exact .here .here | exact .here (.there .here) | exact .here (.there (.there .here)) | apply InM.there)); done)); omega) | (apply p_ldRA; exact rfl; exact rfl; exact rfl; (focus ((repeat (first | exact .here .here | exact .here (.there .here) | exact .here (.there (.there .here)) | apply InM.there)); done)); (first | (simp only [List.length_map, List.length_replicate, List.length_set, List.length_append, List.length_cons, List.length_nil]; first | done | omega) | omega)) | (apply p_ldRg; exact rfl; exact rfl; exact rfl; (focus ((repeat (first | exact .here .here | exact .here (.there .here) | exact .here (.there (.there .here)) | apply InM.there)); done)); (focus ((repeat (first | exact GetN.here | apply GetN.there)); done))) | (apply p_ldRQ; exact rfl; exact rfl; exact rfl; (focus ((repeat (first | exact .here .here | exact .here (.there .here) | exact .here (.there (.there .here)) | apply InM.there)); done)); (focus ((repeat (first | exact DrpN.zero | apply DrpN.succ)); done)); (focus ((repeat (first | exact TakN.nil | apply TakN.cons)); done))) | (apply p_ldG; exact rfl; exact rfl; exact rfl; (focus with_reducible assumption); (focus infer_instance); omega) | (apply p_ldKi; exact rfl; exact rfl; exact rfl; (focus with_reducible assumption); (focus infer_instance); omega) | (apply p_ldKb; exact rfl; exact rfl; exact rfl; (focus with_reducible assumption); (focus infer_instance); omega) | (apply p_ldKs; exact rfl; exact rfl; exact rfl; (focus with_reducible assumption); (focus infer_instance); omega) | (apply p_ldIx; exact rfl; exact rfl; exact rfl; (focus with_reducible assumption); (focus infer_instance); exact rfl) | (apply p_ldI0; exact rfl; exact rfl; exact rfl; (focus with_reducible assumption); (focus infer_instance); exact rfl) | (apply p_ldIA; exact rfl; exact rfl; exact rfl; (focus with_reducible assumption); (focus infer_instance); exact rfl) | (apply p_ldIxV; exact rfl; exact rfl; exact rfl; (focus with_reducible assumption); (focus infer_instance); exact rfl) | (apply p_ldIx2; exact rfl; exact rfl; exact rfl; (focus with_reducible assumption); (focus infer_instance); exact rfl) | (apply p_ldOV0; exact rfl; exact rfl; exact rfl; (focus with_reducible assumption); (focus infer_instance); (focus ((repeat (first | exact Pk.here | apply Pk.there)); done)); omega) | (apply p_ldOE1; exact rfl; exact rfl; exact rfl; (focus with_reducible assumption); (focus infer_instance); (focus ((repeat (first | exact Pk.here | apply Pk.there)); done)); omega) | (apply p_ixN; exact rfl; exact rfl; exact rfl; exact rfl; (focus with_reducible assumption); exact rfl; omega) | (apply p_ixI; exact rfl; exact rfl; exact rfl; exact rfl; (focus with_reducible assumption); exact rfl; omega) | (apply p_ixO; exact rfl; exact rfl; exact rfl; exact rfl; (focus with_reducible assumption); exact rfl; omega) | (apply p_ixL; exact rfl; exact rfl; exact rfl; exact rfl; omega) | (apply p_ixLi; exact rfl; exact rfl; exact rfl; exact rfl; omega) | (apply p_ixA; exact rfl; exact rfl; exact rfl; exact rfl; omega) | (apply p_ixAi; exact rfl; exact rfl; exact rfl; exact rfl; omega) | (apply p_lenS; exact rfl; exact rfl; exact rfl) | (apply p_eqS; exact rfl; exact rfl; exact rfl) | (apply p_neS; exact rfl; exact rfl; exact rfl) | (apply p_add; exact rfl; exact rfl; exact rfl; omega) | (apply p_sub; exact rfl; exact rfl; exact rfl; omega) | (apply p_mul; exact rfl; exact rfl; exact rfl; omega) | (apply p_add64; exact rfl; exact rfl; exact rfl; omega) | (apply p_sub64; exact rfl; exact rfl; exact rfl; omega) | (apply p_mul64; exact rfl; exact rfl; exact rfl; omega) | (apply p_addQ; exact rfl; exact rfl; exact rfl) | (apply p_subQ; exact rfl; exact rfl; exact rfl) | (apply p_mulQ; exact rfl; exact rfl; exact rfl) | (apply p_rem; exact rfl; exact rfl; exact rfl; omega) | (apply p_remU; exact rfl; exact rfl; exact rfl; decide) | (apply p_quo8; exact rfl; exact rfl; exact rfl; omega) | (apply p_quo64; exact rfl; exact rfl; exact rfl; omega) | (apply p_quo; exact rfl; exact rfl; exact rfl; omega) | (apply p_eqV; exact rfl; exact rfl; exact rfl) | (apply p_neV; exact rfl; exact rfl; exact rfl) | (apply p_eqE; exact rfl; exact rfl; exact rfl) | (apply p_neE; exact rfl; exact rfl; exact rfl) | (apply p_sliceS; exact rfl; exact rfl; exact rfl; exact rfl; exact rfl; omega) | (apply p_sliceLo; exact rfl; exact rfl; exact rfl; exact rfl; omega) | (apply p_sliceHi; exact rfl; exact rfl; exact rfl; exact rfl; omega) | (apply p_lookV; exact rfl; exact rfl; exact rfl; (focus ((repeat (first | exact .here .here | exact .here (.there .here) | exact .here (.there (.there .here)) | apply InM.there)); done)); (focus with_reducible assumption)) | (apply p_look1V; exact rfl; exact rfl; exact rfl; (focus ((repeat (first | exact .here .here | exact .here (.there .here) | exact .here (.there (.there .here)) | apply InM.there)); done)); (focus with_reducible assumption)) | (apply p_shr; exact rfl; exact rfl; exact rfl; (focus (first | decide | omega | exact u64_nn _))) | (apply p_shl; exact rfl; exact rfl; exact rfl; (focus (first | decide | omega | exact u64_nn _))) | (apply p_neg; exact rfl; exact rfl) | (apply p_cpl; exact rfl; exact rfl) | (apply p_min; exact rfl; exact rfl; exact rfl) | (apply p_conv; exact rfl; exact rfl; (focus (first | exact wrap_u8 (by omega) | exact wrap_u32 (by omega) | exact wrap_u64 (by omega) | exact wrap_i64 (by omega)))) | (apply p_conv; exact rfl; exact rfl; exact rfl) | (apply p_ixV; exact rfl; exact rfl; exact rfl; omega) | (apply p_index; exact rfl; exact rfl; exact rfl; exact rfl; omega) | (apply p_slAB; exact rfl; exact rfl; exact rfl; exact rfl; exact rfl; omega) | (apply p_slA; exact rfl; exact rfl; exact rfl; exact rfl; omega) | (apply p_slB; exact rfl; exact rfl; exact rfl; exact rfl; omega) | (apply p_sliceArr; exact rfl; exact rfl; exact rfl; exact rfl) | (apply p_pickT; exact rfl; exact rfl; (focus (first | with_reducible rfl | with_reducible assumption | decide)); exact rfl) | (apply p_pickF; exact rfl; exact rfl; (focus (first | with_reducible rfl | with_reducible assumption | decide)); exact rfl) | (apply p_cat; exact rfl; exact rfl; exact rfl; omega))) | (apply p_offT; exact rfl; exact rfl; exact rfl; (first | with_reducible assumption | decide)) | (apply p_offF; exact rfl; exact rfl; exact rfl; (first | with_reducible assumption | decide)) | (apply p_offu; exact rfl; exact rfl; exact rfl))))))); (first | exact DE.nil k.h | exact k.h))) : p := h ⟨k⟩
end Go.Proofs.YtngoaapgdfohjaaGreatDoor.X
