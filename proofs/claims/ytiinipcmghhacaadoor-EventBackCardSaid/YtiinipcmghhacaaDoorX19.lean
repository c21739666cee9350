/- Regions that draw their order, and change memory. -/
import Derived.Test.YtiinipcmghhacaaDoorX18
set_option linter.unusedVariables false
set_option linter.unusedSimpArgs false
namespace Go.Proofs.YtiinipcmghhacaaDoor.X
open Go
/-! ## A region that draws its order, and changes memory -/
/-- What is done, with all that it waited for. -/
def ClosedF (l : List Oper) (f : Nat → Bool) : Prop := ∀ (k : Nat) (o : Oper), l[k]? = some o → f k = true → ∀ j, (ons o).elem j = true → f j = true
def updF (f : Nat → Bool) (i : Nat) : Nat → Bool := fun k => Nat.beq k i || f k
def AllF (S : Nat → Oper → (Value → Heap → Prop) → Prop) : Nat → List Oper → List (Value → Heap → Prop) → Prop
  | _, [], [] => True
  | i, o :: r, p :: q => S i o p ∧ AllF S (i + 1) r q
  | _, _, _ => False
theorem AllF.get {S : Nat → Oper → (Value → Heap → Prop) → Prop} : ∀ {k : Nat} {l : List Oper} {V : List (Value → Heap → Prop)}, AllF S k l V → ∀ (i : Nat) o, l[i]? = some o → ∃ p, V[i]? = some p ∧ S (k + i) o p
  | _, [], [], _, i, o, h => by simp at h
  | k, o :: r, p :: q, ⟨h1, h2⟩, i, o', h => by
    cases i with
    | zero => simp at h; subst h; exact ⟨p, rfl, h1⟩
    | succ i =>
      obtain ⟨p', a1, a2⟩ := AllF.get h2 i o' (by simpa using h)
      exact ⟨p', by simpa using a1, by rw [show k + (i + 1) = k + 1 + i by omega]; exact a2⟩
  | _, [], _ :: _, h, _, _, _ => h.elim
  | _, _ :: _, [], h, _, _, _ => h.elim
/-- Each operation that has a slot has one of its own, that isn't told in `L`. -/
def freshF (ops : List Oper) (L : List (Nat × Value)) : List Nat → Bool
  | seen => match ops with
    | [] => true
    | o :: r => match o.dst with
      | some d => (lk L d).isNone && !(seen.elem d) && freshF r L (d :: seen)
      | none => freshF r L seen
theorem freshF_spec : ∀ (l : List Oper) (L : List (Nat × Value)) (seen : List Nat), freshF l L seen = true → (∀ (i : Nat) (o : Oper) (d : Nat), l[i]? = some o → o.dst = some d → lk L d = none ∧ d ∉ seen) ∧ (∀ (i j : Nat) (o o' : Oper) (d : Nat), l[i]? = some o → l[j]? = some o' → o.dst = some d → o'.dst = some d → i = j)
  | [], _, _, _ => ⟨by simp, by simp⟩
  | o :: r, L, seen, h => by
    unfold freshF at h
    cases hd : o.dst with
    | none =>
      simp only [hd] at h
      obtain ⟨ih1, ih2⟩ := freshF_spec r L seen h
      refine ⟨fun i o' d ho hd' => ?_, fun i j o1 o2 e he1 he2 hd1 hd2 => ?_⟩
      · cases i with
        | zero => simp at ho; subst ho; rw [hd] at hd'; cases hd'
        | succ i => exact ih1 i o' d (by simpa using ho) hd'
      · cases i with
        | zero => simp at he1; subst he1; rw [hd] at hd1; cases hd1
        | succ i =>
          cases j with
          | zero => simp at he2; subst he2; rw [hd] at hd2; cases hd2
          | succ j => rw [ih2 i j o1 o2 e (by simpa using he1) (by simpa using he2) hd1 hd2]
    | some d =>
      simp only [hd, Bool.and_eq_true, Bool.not_eq_true', Option.isNone_iff_eq_none] at h
      obtain ⟨⟨h1, h2⟩, h4⟩ := h
      obtain ⟨ih1, ih2⟩ := freshF_spec r L (d :: seen) h4
      have h2' : d ∉ seen := by intro hm; rw [List.elem_eq_true_of_mem hm] at h2; cases h2
      refine ⟨fun i o' d' ho hd' => ?_, fun i j o1 o2 e he1 he2 hd1 hd2 => ?_⟩
      · cases i with
        | zero =>
          simp at ho; subst ho
          rw [hd] at hd'; cases hd'
          exact ⟨h1, h2'⟩
        | succ i =>
          obtain ⟨a2, a3⟩ := ih1 i o' d' (by simpa using ho) hd'
          exact ⟨a2, fun hm => a3 (List.mem_cons_of_mem _ hm)⟩
      · cases i with
        | zero =>
          cases j with
          | zero => rfl
          | succ j =>
            simp at he1; subst he1
            rw [hd] at hd1; cases hd1
            exact absurd (List.mem_cons_self) (ih1 j o2 d (by simpa using he2) hd2).2
        | succ i =>
          cases j with
          | zero =>
            simp at he2; subst he2
            rw [hd] at hd2; cases hd2
            exact absurd (List.mem_cons_self) (ih1 i o1 d (by simpa using he1) hd1).2
          | succ j => rw [ih2 i j o1 o2 e (by simpa using he1) (by simpa using he2) hd1 hd2]
section
variable {P : Program} {Q : Exit → Act → World → Prop} {a : Act} {w : World} {N : Nat} {D : List Deferred} {L : List (Nat × Value)} {G : Heap}
/-- What is asked of one operation: in whatever state in which it isn't done, and all that it waits for is. -/
def StepF (P : Program) (Q : Exit → Act → World → Prop) (N : Nat) (D : List Deferred) (L : List (Nat × Value)) (WI : (Nat → Bool) → Heap → World → Prop) (l : List Oper) (V : List (Value → Heap → Prop)) (Old : List (Nat × Value × Nat)) (i : Nat) (o : Oper) (p : Value → Heap → Prop) : Prop :=
  ∀ a w G f, ClosedF l f → f i = false → (∀ j, (ons o).elem j = true → f j = true) → WI f G w → Env a N D L →
    (∀ j d q, f j = true → dstOf l.toArray j = some d → V[j]? = some q → ∃ v, a.tmps[d]? = some v ∧ q v G) → (∀ t v k, (t, v, k) ∈ Old → f k = false → a.tmps[t]? = some v) →
    wpList P l.toArray (Exit.then (fun a' w' => ∃ v G2, Heap.le G G2 ∧ WI (updF f i) G2 w' ∧ (∀ d, o.dst = some d → a'.tmps[d]? = some v) ∧ a'.defers = D ∧ p v G2) Q) [o] a w
theorem drawnF {id : Nat} {l : List Oper} (WI : (Nat → Bool) → Heap → World → Prop) (V : List (Value → Heap → Prop)) (Old : List (Nat × Value × Nat)) (hm : P.follows .mixedOrders = true) (hb : backOk l.toArray = true) (hE : Env a N D L) (hW : WI (fun _ => false) G w.drew) (hf : freshF l L [] = true)
    (hOld : ∀ t v k, (t, v, k) ∈ Old → a.tmps[t]? = some v ∧ dstOf l.toArray k = some t)
    (hmono : ∀ p ∈ V, ∀ v A B, Heap.le A B → p v A → p v B)
    (hstep : AllF (StepF P Q N D L WI l V Old) 0 l V)
    (hend : ∀ a w G' f, Heap.le G G' → (∀ i, i < l.length → f i = true) → WI f G' w → Env a N D L → (∀ j d q, dstOf l.toArray j = some d → V[j]? = some q → ∃ v, a.tmps[d]? = some v ∧ q v G') → Q .normal a w) :
    (Code.region id l.toArray true).wp P Q a w := by
  obtain ⟨hf1, hf2⟩ := freshF_spec l L [] hf
  have dst_of : ∀ {j : Nat} {o : Oper} {d : Nat}, l[j]? = some o → dstOf l.toArray j = some d → o.dst = some d := by
    intro j o d ho hd
    unfold dstOf at hd
    simp only [List.getElem?_toArray, ho, Option.bind_some] at hd
    exact hd
  refine drawnI (fun listed a w => listed.size = l.length ∧ ∃ G', Heap.le G G' ∧ ClosedF l (fun k => listed.getD k false) ∧ WI (fun k => listed.getD k false) G' w ∧ Env a N D L ∧
      (∀ j d q, listed.getD j false = true → dstOf l.toArray j = some d → V[j]? = some q → ∃ v, a.tmps[d]? = some v ∧ q v G') ∧ (∀ t v k, (t, v, k) ∈ Old → listed.getD k false = false → a.tmps[t]? = some v)) hm hb
    ⟨by simp, G, Heap.le.refl _, ?_, ?_, hE, ?_, fun t v k hk _ => (hOld t v k hk).1⟩ ?_ ?_
  · intro k o _ hk
    exfalso
    revert hk
    simp only [Array.getD_eq_getD_getElem?, Array.getElem?_replicate]
    split <;> simp
  · have : (fun k => (Array.replicate l.toArray.size false).getD k false) = (fun _ => false) := by
      funext k
      simp only [Array.getD_eq_getD_getElem?, Array.getElem?_replicate]
      split <;> simp
    rw [this]
    exact hW
  · intro j d q hj
    exfalso
    revert hj
    simp only [Array.getD_eq_getD_getElem?, Array.getElem?_replicate]
    split <;> simp
  · rintro listed a w i o ⟨hsz, G', hle, hcl, hW', hE', hv, hO⟩ _ ho hfalse hon
    have hol : l[i]? = some o := by simpa using ho
    have hil : i < l.length := (List.getElem?_eq_some_iff.1 hol).1
    obtain ⟨p, hp, hok⟩ := hstep.get i o hol
    rw [Nat.zero_add] at hok
    have hnow : ∀ j, (ons o).elem j = true → listed.getD j false = true := by
      intro j hj
      have : j ∈ ons o := List.mem_of_elem_eq_true hj
      unfold ons at this
      obtain ⟨e, he, rfl⟩ := List.mem_map.1 this
      obtain ⟨he, hbd⟩ := List.mem_filter.1 he
      simp [Array.getD_eq_getD_getElem?, hon e (Array.mem_toList_iff.1 he) hbd]
    have h1 := hok a w G' (fun k => listed.getD k false) hcl (by simp [Array.getD_eq_getD_getElem?, hfalse]) hnow hW' hE' hv hO
    have hset : ∀ k, (listed.setIfInBounds i true).getD k false = updF (fun k => listed.getD k false) i k := by
      intro k
      unfold updF
      simp only [Array.getD_eq_getD_getElem?, Array.getElem?_setIfInBounds]
      by_cases e : i = k
      · subst e
        rw [if_pos rfl, if_pos (by omega)]
        simp
      · rw [if_neg e]
        have : Nat.beq k i = false := by
          cases hb : Nat.beq k i with
          | false => rfl
          | true => exact absurd (Nat.eq_of_beq_eq_true hb).symm e
        rw [this, Bool.false_or]
    have hfin : ∀ a' w', (∃ v G2, Heap.le G' G2 ∧ WI (updF (fun k => listed.getD k false) i) G2 w' ∧ (∀ d, o.dst = some d → a'.tmps[d]? = some v) ∧ a'.defers = D ∧ p v G2) ∧ (∃ v, a'.tmps = (a.put o.dst v).tmps) →
        (listed.setIfInBounds i true).size = l.length ∧ ∃ G', Heap.le G G' ∧ ClosedF l (fun k => (listed.setIfInBounds i true).getD k false) ∧ WI (fun k => (listed.setIfInBounds i true).getD k false) G' w' ∧ Env a' N D L ∧
      (∀ j d q, (listed.setIfInBounds i true).getD j false = true → dstOf l.toArray j = some d → V[j]? = some q → ∃ v, a'.tmps[d]? = some v ∧ q v G') ∧ (∀ t v k, (t, v, k) ∈ Old → (listed.setIfInBounds i true).getD k false = false → a'.tmps[t]? = some v) := by
      rintro a' w' ⟨⟨v, G2, hl2, hW2, hav, hdf, hpv⟩, ⟨u, hu⟩⟩
      have hget : ∀ t, o.dst ≠ some t → a'.tmps[t]? = a.tmps[t]? := fun t ht => by
        rw [hu]
        cases hd : o.dst with
        | none => rfl
        | some d =>
          rw [hd] at ht
          have hne : ¬ d = t := fun e => ht (congrArg some e)
          simp only [Act.put, Array.getElem?_setIfInBounds, if_neg hne]
      have hsize : a'.tmps.size = N := by
        rw [hu]
        cases o.dst <;> simp [Act.put, hE'.size]
      refine ⟨by simpa using hsz, G2, hle.trans hl2, ?_, ?_, ⟨hsize, hdf, fun t x ht => ?_⟩, fun j dj q hj hdj hq => ?_, fun t x k hk hfk => ?_⟩
      · intro k o' ho' hk j hj
        simp only [hset] at hk ⊢
        unfold updF at hk ⊢
        rw [Bool.or_eq_true] at hk ⊢
        rcases hk with hk | hk
        · have := Nat.eq_of_beq_eq_true hk
          subst this
          rw [hol] at ho'; cases ho'
          exact .inr (hnow j hj)
        · exact .inr (hcl k o' ho' hk j hj)
      · have : (fun k => (listed.setIfInBounds i true).getD k false) = updF (fun k => listed.getD k false) i := funext hset
        rw [this]
        exact hW2
      · rw [hget t (fun e => by have := (hf1 i o t hol e).1; rw [this] at ht; cases ht)]
        exact hE'.get t x ht
      · by_cases e : j = i
        · subst e
          rw [hp] at hq; cases hq
          exact ⟨v, hav dj (dst_of hol hdj), hpv⟩
        · rw [hset] at hj
          unfold updF at hj
          have hji : Nat.beq j i = false := by
            cases hb : Nat.beq j i with
            | false => rfl
            | true => exact absurd (Nat.eq_of_beq_eq_true hb) e
          rw [hji, Bool.false_or] at hj
          obtain ⟨x, hx1, hx2⟩ := hv j dj q hj hdj hq
          refine ⟨x, ?_, hmono q (List.mem_of_getElem? hq) _ _ _ hl2 hx2⟩
          rw [hget dj fun hd => ?_]
          · exact hx1
          · cases hoj : l[j]? with
            | none => unfold dstOf at hdj; simp [hoj] at hdj
            | some oj => exact e (hf2 j i oj o dj hoj hol (dst_of hoj hdj) hd)
      · rw [hset] at hfk
        unfold updF at hfk
        rw [Bool.or_eq_false_iff] at hfk
        rw [hget t fun hd => ?_]
        · exact hO t x k hk hfk.2
        · have hdk := (hOld t x k hk).2
          cases hok : l[k]? with
          | none => unfold dstOf at hdk; simp [hok] at hdk
          | some ok =>
            have : k = i := hf2 k i ok o t hok hol (dst_of hok hdk) hd
            subst this
            simp at hfk
    unfold wpOp
    rw [ho]
    simp only
    unfold wpList at h1
    by_cases hw : Region.wanted o (yielded l.toArray a.tmps) = true
    · rw [if_pos hw] at h1 ⊢
      rcases h1 with h1 | ⟨h1, a', w', hq⟩
      · exact .inl (wp_exits (fun _ _ _ h => h) (fun ⟨a, w, h⟩ => ⟨a, w, h⟩) (Oper.wp_mono hfin (wp_put h1)))
      · exact .inr ⟨h1, a', w', hq⟩
    · rw [if_neg hw] at h1 ⊢
      exact hfin _ _ ⟨h1, _, rfl⟩
  · rintro listed a w ⟨hsz, G', hle, hcl, hW', hE', hv, hO⟩ hall
    have hd : ∀ i, i < l.length → listed.getD i false = true := fun i hi => by
      simp [Array.getD_eq_getD_getElem?, hall i (by simpa using hi)]
    refine hend a w G' _ hle hd hW' hE' fun j d q hdj hq => ?_
    have hjl : j < l.length := by
      cases hoj : l[j]? with
      | none => unfold dstOf at hdj; simp [hoj] at hdj
      | some oj => exact (List.getElem?_eq_some_iff.1 hoj).1
    exact hv j d q (hd j hjl) hdj hq
end
end Go.Proofs.YtiinipcmghhacaaDoor.X
