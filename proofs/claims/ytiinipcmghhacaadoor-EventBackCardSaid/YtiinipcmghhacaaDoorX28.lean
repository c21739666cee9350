/- Regions whose last operations stand in one order. -/
import Derived.Test.YtiinipcmghhacaaDoorX27
set_option linter.unusedVariables false
set_option linter.unusedSimpArgs false
namespace Go.Proofs.YtiinipcmghhacaaDoor.X
open Go
/-! ## A region that draws its order: what touches memory comes last, in one order -/
/-- What an operation waits for, at last. -/
def ancF (l : List Oper) : Nat → Nat → List Nat
  | 0, _ => []
  | k + 1, i => match l[i]? with
    | none => []
    | some o => (ons o).flatMap fun j => j :: ancF l k j
/-- The operations from `n` on: each waits for all that stand before it. -/
def seqB (l : List Oper) (n : Nat) : Bool := (List.range l.length).all fun k => Nat.blt k n || (List.range k).all fun i => (ancF l l.length k).elem i
theorem ancF_done {l : List Oper} {f : Nat → Bool} (hc : ClosedF l f) : ∀ (k i : Nat), f i = true → ∀ j ∈ ancF l k i, f j = true
  | 0, i, _, j, hj => by simp [ancF] at hj
  | k + 1, i, hi, j, hj => by
    unfold ancF at hj
    cases ho : l[i]? with
    | none => simp [ho] at hj
    | some o =>
      simp only [ho, List.mem_flatMap, List.mem_cons] at hj
      obtain ⟨m, hm, rfl | hj⟩ := hj
      · exact hc i o ho hi _ (List.elem_eq_true_of_mem hm)
      · exact ancF_done hc k m (hc i o ho hi _ (List.elem_eq_true_of_mem hm)) j hj
theorem ancF_now {l : List Oper} {f : Nat → Bool} (hc : ClosedF l f) {i : Nat} {o : Oper} (ho : l[i]? = some o) (hn : ∀ j, (ons o).elem j = true → f j = true) : ∀ k, ∀ j ∈ ancF l k i, f j = true
  | 0, j, hj => by simp [ancF] at hj
  | k + 1, j, hj => by
    unfold ancF at hj
    simp only [ho, List.mem_flatMap, List.mem_cons] at hj
    obtain ⟨m, hm, rfl | hj⟩ := hj
    · exact hn _ (List.elem_eq_true_of_mem hm)
    · exact ancF_done hc k m (hn m (List.elem_eq_true_of_mem hm)) j hj
theorem seqB_spec {l : List Oper} {n k i : Nat} (h : seqB l n = true) (hk : k < l.length) (hn : n ≤ k) (hi : i < k) : i ∈ ancF l l.length k := by
  unfold seqB at h
  have h1 := List.all_eq_true.1 h k (List.mem_range.2 hk)
  rw [Bool.or_eq_true] at h1
  rcases h1 with h1 | h1
  · rw [Nat.blt_eq] at h1; omega
  · exact List.mem_of_elem_eq_true (List.all_eq_true.1 h1 i (List.mem_range.2 hi))
theorem wpOp_list {P : Program} {Q : Exit → Act → World → Prop} {a : Act} {w : World} {l rest : List Oper} {i : Nat} {o : Oper} {K : Act → World → Prop} (ho : l.toArray[i]? = some o) (h : wpList P l.toArray Q (o :: rest) a w) (hK : ∀ a' w', wpList P l.toArray Q rest a' w' → K a' w') : wpOp P l.toArray Q i K a w := by
  unfold wpOp
  rw [ho]
  simp only
  unfold wpList at h
  by_cases hw : Region.wanted o (yielded l.toArray a.tmps) = true
  · rw [if_pos hw] at h ⊢
    rcases h with h | h
    · exact .inl (Oper.wp_mono hK h)
    · exact .inr h
  · rw [if_neg hw] at h ⊢
    exact hK _ _ h
theorem backOk_lt {l : List Oper} (hb : backOk l.toArray = true) {x y : Nat} {ox : Oper} (hox : l[x]? = some ox) (hy : (ons ox).elem y = true) : y < x := by
  have hm : y ∈ ons ox := List.mem_of_elem_eq_true hy
  unfold ons at hm
  obtain ⟨e, he, rfl⟩ := List.mem_map.1 hm
  obtain ⟨he, hbd⟩ := List.mem_filter.1 he
  unfold backOk at hb
  have h1 := List.all_eq_true.1 hb (ox, x) (by rw [List.mem_zipIdx_iff_getElem?]; simpa using hox)
  have h2 := List.all_eq_true.1 h1 e he
  simp only [hbd, Bool.not_true, Bool.false_or, decide_eq_true_eq] at h2
  exact h2
section
variable {P : Program} {Q : Exit → Act → World → Prop} {a : Act} {w : World} {N : Nat} {D : List Deferred} {L : List (Nat × Value)} {G : Heap}
theorem drawnSeq {id : Nat} {l : List Oper} (n : Nat) (WI : (Nat → Bool) → Heap → World → Prop) (V : List (Value → Heap → Prop)) (hm : P.follows .mixedOrders = true) (hb : backOk l.toArray = true) (hq : seqB l n = true) (hE : Env a N D L) (hW : WI (fun _ => false) G w.drew) (hf : freshF (l.take n) L [] = true)
    (hmono : ∀ p ∈ V, ∀ v A B, Heap.le A B → p v A → p v B)
    (hstep : AllF (StepF P Q N D L WI l V []) 0 (l.take n) V)
    (hend : ∀ a w G' f, Heap.le G G' → (∀ i, i < n → i < l.length → f i = true) → WI f G' w → Env a N D L → (∀ j d q, dstOf l.toArray j = some d → V[j]? = some q → ∃ v, a.tmps[d]? = some v ∧ q v G') → wpList P l.toArray Q (l.drop n) a w) :
    (Code.region id l.toArray true).wp P Q a w := by
  obtain ⟨hf1, hf2⟩ := freshF_spec (l.take n) L [] hf
  have htake : ∀ {j : Nat} {o : Oper}, j < n → l[j]? = some o → (l.take n)[j]? = some o := fun hj ho => by rw [List.getElem?_take, if_pos hj]; exact ho
  have dst_of : ∀ {j : Nat} {o : Oper} {d : Nat}, l[j]? = some o → dstOf l.toArray j = some d → o.dst = some d := by
    intro j o d ho hd
    unfold dstOf at hd
    simp only [List.getElem?_toArray, ho, Option.bind_some] at hd
    exact hd
  have hVlen : ∀ {j : Nat} {q : Value → Heap → Prop}, V[j]? = some q → j < n := by
    have key : ∀ (k : Nat) (l' : List Oper) (V : List (Value → Heap → Prop)), AllF (StepF P Q N D L WI l V []) k l' V → True := fun _ _ _ _ => trivial
    have hlen : ∀ {S : Nat → Oper → (Value → Heap → Prop) → Prop} {k : Nat} {l' : List Oper} {V' : List (Value → Heap → Prop)}, AllF S k l' V' → V'.length = l'.length := by
      intro S k l'
      induction l' generalizing k with
      | nil => intro V' h; cases V' with
        | nil => rfl
        | cons p q => exact h.elim
      | cons o r ih => intro V' h; cases V' with
        | nil => exact h.elim
        | cons p q => simp [ih h.2]
    intro j q hj
    have h1 := (List.getElem?_eq_some_iff.1 hj).1
    rw [hlen hstep, List.length_take] at h1
    omega
  refine drawnI (fun listed a w => listed.size = l.length ∧ ((∃ G', Heap.le G G' ∧ (∀ k, n ≤ k → listed.getD k false = false) ∧ ClosedF l (fun k => listed.getD k false) ∧ WI (fun k => listed.getD k false) G' w ∧ Env a N D L ∧
      (∀ j d q, listed.getD j false = true → dstOf l.toArray j = some d → V[j]? = some q → ∃ v, a.tmps[d]? = some v ∧ q v G')) ∨
      (∃ j, n < j ∧ j ≤ l.length ∧ (∀ k, k < l.length → listed.getD k false = decide (k < j)) ∧ wpList P l.toArray Q (l.drop j) a w))) hm hb
    ⟨by simp, .inl ⟨G, Heap.le.refl _, ?_, ?_, ?_, hE, ?_⟩⟩ ?_ ?_
  · intro k _
    simp only [Array.getD_eq_getD_getElem?, Array.getElem?_replicate]
    split <;> simp
  · intro k o _ hk
    exfalso
    revert hk
    simp only [Array.getD_eq_getD_getElem?, Array.getElem?_replicate]
    split <;> simp
  · have : (fun k => (Array.replicate l.toArray.size false).getD k false) = (fun _ => false) := by
      funext k
      simp only [Array.getD_eq_getD_getElem?, Array.getElem?_replicate]
      split <;> simp
    rw [this]
    exact hW
  · intro j d q hj
    exfalso
    revert hj
    simp only [Array.getD_eq_getD_getElem?, Array.getElem?_replicate]
    split <;> simp
  · rintro listed a w i o ⟨hsz, hcase⟩ _ ho hfalse hon
    have hol : l[i]? = some o := by simpa using ho
    have hil : i < l.length := (List.getElem?_eq_some_iff.1 hol).1
    have hnow : ∀ j, (ons o).elem j = true → listed.getD j false = true := by
      intro j hj
      have : j ∈ ons o := List.mem_of_elem_eq_true hj
      unfold ons at this
      obtain ⟨e, he, rfl⟩ := List.mem_map.1 this
      obtain ⟨he, hbd⟩ := List.mem_filter.1 he
      simp [Array.getD_eq_getD_getElem?, hon e (Array.mem_toList_iff.1 he) hbd]
    have hset : ∀ k, (listed.setIfInBounds i true).getD k false = updF (fun k => listed.getD k false) i k := by
      intro k
      unfold updF
      simp only [Array.getD_eq_getD_getElem?, Array.getElem?_setIfInBounds]
      by_cases e : i = k
      · subst e
        rw [if_pos rfl, if_pos (by omega)]
        simp
      · rw [if_neg e]
        have : Nat.beq k i = false := by
          cases hb : Nat.beq k i with
          | false => rfl
          | true => exact absurd (Nat.eq_of_beq_eq_true hb).symm e
        rw [this, Bool.false_or]
    have hif : listed.getD i false = false := by simp [Array.getD_eq_getD_getElem?, hfalse]
    have hupd : ∀ k, updF (fun k => listed.getD k false) i k = (decide (k = i) || listed.getD k false) := by
      intro k
      unfold updF
      congr 1
      by_cases e : k = i
      · subst e; simp
      · rw [decide_eq_false e]
        cases hb : Nat.beq k i with
        | false => rfl
        | true => exact absurd (Nat.eq_of_beq_eq_true hb) e
    rcases hcase with ⟨G', hle, hno, hcl, hW', hE', hv⟩ | ⟨j, hj1, hj2, hjl, hwp⟩
    · by_cases hin : i < n
      · obtain ⟨p, hp, hok⟩ := hstep.get i o (htake hin hol)
        rw [Nat.zero_add] at hok
        have h1 := hok a w G' (fun k => listed.getD k false) hcl hif hnow hW' hE' hv (fun _ _ _ h => by cases h)
        have hfin : ∀ a' w', (∃ v G2, Heap.le G' G2 ∧ WI (updF (fun k => listed.getD k false) i) G2 w' ∧ (∀ d, o.dst = some d → a'.tmps[d]? = some v) ∧ a'.defers = D ∧ p v G2) ∧ (∃ v, a'.tmps = (a.put o.dst v).tmps) →
            (listed.setIfInBounds i true).size = l.length ∧ ((∃ G', Heap.le G G' ∧ (∀ k, n ≤ k → (listed.setIfInBounds i true).getD k false = false) ∧ ClosedF l (fun k => (listed.setIfInBounds i true).getD k false) ∧ WI (fun k => (listed.setIfInBounds i true).getD k false) G' w' ∧ Env a' N D L ∧
          (∀ j d q, (listed.setIfInBounds i true).getD j false = true → dstOf l.toArray j = some d → V[j]? = some q → ∃ v, a'.tmps[d]? = some v ∧ q v G')) ∨
          (∃ j, n < j ∧ j ≤ l.length ∧ (∀ k, k < l.length → (listed.setIfInBounds i true).getD k false = decide (k < j)) ∧ wpList P l.toArray Q (l.drop j) a' w')) := by
          rintro a' w' ⟨⟨v, G2, hl2, hW2, hav, hdf, hpv⟩, ⟨u, hu⟩⟩
          have hget : ∀ t, o.dst ≠ some t → a'.tmps[t]? = a.tmps[t]? := fun t ht => by
            rw [hu]
            cases hd : o.dst with
            | none => rfl
            | some d =>
              rw [hd] at ht
              have hne : ¬ d = t := fun e => ht (congrArg some e)
              simp only [Act.put, Array.getElem?_setIfInBounds, if_neg hne]
          have hsize : a'.tmps.size = N := by
            rw [hu]
            cases o.dst <;> simp [Act.put, hE'.size]
          refine ⟨by simpa using hsz, .inl ⟨G2, hle.trans hl2, ?_, ?_, ?_, ⟨hsize, hdf, fun t x ht => ?_⟩, fun j dj q hj hdj hq => ?_⟩⟩
          · intro k hk
            rw [hset, hupd, decide_eq_false (by omega), hno k hk]; rfl
          · intro k o' ho' hk j hj
            simp only [hset] at hk ⊢
            unfold updF at hk ⊢
            rw [Bool.or_eq_true] at hk ⊢
            rcases hk with hk | hk
            · have := Nat.eq_of_beq_eq_true hk
              subst this
              rw [hol] at ho'; cases ho'
              exact .inr (hnow j hj)
            · exact .inr (hcl k o' ho' hk j hj)
          · have : (fun k => (listed.setIfInBounds i true).getD k false) = updF (fun k => listed.getD k false) i := funext hset
            rw [this]
            exact hW2
          · rw [hget t (fun e => by have := (hf1 i o t (htake hin hol) e).1; rw [this] at ht; cases ht)]
            exact hE'.get t x ht
          · by_cases e : j = i
            · subst e
              rw [hp] at hq; cases hq
              exact ⟨v, hav dj (dst_of hol hdj), hpv⟩
            · rw [hset] at hj
              unfold updF at hj
              have hji : Nat.beq j i = false := by
                cases hb : Nat.beq j i with
                | false => rfl
                | true => exact absurd (Nat.eq_of_beq_eq_true hb) e
              rw [hji, Bool.false_or] at hj
              obtain ⟨x, hx1, hx2⟩ := hv j dj q hj hdj hq
              refine ⟨x, ?_, hmono q (List.mem_of_getElem? hq) _ _ _ hl2 hx2⟩
              rw [hget dj fun hd => ?_]
              · exact hx1
              · cases hoj : l[j]? with
                | none => unfold dstOf at hdj; simp [hoj] at hdj
                | some oj => exact e (hf2 j i oj o dj (htake (hVlen hq) hoj) (htake hin hol) (dst_of hoj hdj) hd)
        unfold wpOp
        rw [ho]
        simp only
        unfold wpList at h1
        by_cases hw : Region.wanted o (yielded l.toArray a.tmps) = true
        · rw [if_pos hw] at h1 ⊢
          rcases h1 with h1 | ⟨h1, a', w', hq⟩
          · exact .inl (wp_exits (fun _ _ _ h => h) (fun ⟨a, w, h⟩ => ⟨a, w, h⟩) (Oper.wp_mono hfin (wp_put h1)))
          · exact .inr ⟨h1, a', w', hq⟩
        · rw [if_neg hw] at h1 ⊢
          exact hfin _ _ ⟨h1, _, rfl⟩
      · have hall := ancF_now hcl hol hnow l.length
        have hlt : ∀ k, k < i → listed.getD k false = true := fun k hk => hall k (seqB_spec hq hil (by omega) hk)
        have hi0 : i = n := by
          rcases Nat.lt_or_ge n i with h | h
          · have h1 := hlt n h; rw [hno n (Nat.le_refl _)] at h1; cases h1
          · omega
        subst hi0
        have h1 := hend a w G' _ hle (fun k hk _ => hlt k hk) hW' hE' (fun j d q hd hvq => hv j d q (hlt j (hVlen hvq)) hd hvq)
        rw [List.drop_eq_getElem_cons hil, (List.getElem?_eq_some_iff.1 hol).2] at h1
        refine wpOp_list ho h1 fun a' w' h2 => ⟨by simpa using hsz, .inr ⟨i + 1, by omega, by omega, fun k hk => ?_, h2⟩⟩
        rw [hset, hupd]
        rcases Nat.lt_trichotomy k i with h | h | h
        · rw [hlt k h, Bool.or_true, decide_eq_true (by omega)]
        · rw [decide_eq_true h, Bool.true_or, decide_eq_true (by omega)]
        · rw [decide_eq_false (by omega), hno k (by omega), decide_eq_false (by omega)]; rfl
    · have hcl : ∀ k, k < i → k < j := by
        intro k hk
        have h0 : ∀ m, (ons o).elem m = true → (fun x => listed.getD x false) m = true := hnow
        have hcl2 : ClosedF l (fun x => decide (x < j)) := by
          intro x ox hox hx y hy
          simp only [decide_eq_true_eq] at hx ⊢
          have hxl := (List.getElem?_eq_some_iff.1 hox).1
          have hb2 := backOk_lt hb hox hy
          omega
        have h1 : ∀ m, (ons o).elem m = true → (fun x => decide (x < j)) m = true := by
          intro m hm2
          have h3 := h0 m hm2
          have hml : m < l.length := by
            cases Nat.lt_or_ge m l.length with
            | inl h => exact h
            | inr h => have h3' : listed.getD m false = true := h3; rw [Array.getD_eq_getD_getElem?, Array.getElem?_eq_none (by omega)] at h3'; cases h3'
          have h4 := hjl m hml
          have h3' : listed.getD m false = true := h3
          rw [h3'] at h4
          exact h4.symm
        have := ancF_now hcl2 hol h1 l.length k (seqB_spec hq hil (by have := hjl i hil; rw [hif] at this; have := of_decide_eq_false this.symm; omega) hk)
        simpa using this
      have hij : i = j := by
        have h1 := hjl i hil
        rw [hif] at h1
        have h2 := of_decide_eq_false h1.symm
        rcases Nat.lt_or_ge j i with h | h
        · have := hcl j h; omega
        · omega
      subst hij
      rw [List.drop_eq_getElem_cons hil, (List.getElem?_eq_some_iff.1 hol).2] at hwp
      refine wpOp_list ho hwp fun a' w' h2 => ⟨by simpa using hsz, .inr ⟨i + 1, by omega, by omega, fun k hk => ?_, h2⟩⟩
      rw [hset, hupd, hjl k hk]
      by_cases h : k = i
      · subst h; simp
      · by_cases h3 : k < i
        · rw [decide_eq_true h3, Bool.or_true, decide_eq_true (by omega)]
        · rw [decide_eq_false h, decide_eq_false h3, decide_eq_false (by omega)]; rfl
  · rintro listed a w ⟨hsz, hcase⟩ hall
    have hd : ∀ i, i < l.length → listed.getD i false = true := fun i hi => by
      simp [Array.getD_eq_getD_getElem?, hall i (by simpa using hi)]
    rcases hcase with ⟨G', hle, hno, hcl, hW', hE', hv⟩ | ⟨j, hj1, hj2, hjl, hwp⟩
    · have hln : l.length ≤ n := by
        rcases Nat.lt_or_ge n l.length with h | h
        · have h1 := hd n h; rw [hno n (Nat.le_refl _)] at h1; cases h1
        · exact h
      have h1 := hend a w G' _ hle (fun k _ hk => hd k hk) hW' hE' (fun j d q hdj hvq => hv j d q (by
        cases hoj : l[j]? with
        | none => unfold dstOf at hdj; simp [hoj] at hdj
        | some oj => exact hd j (List.getElem?_eq_some_iff.1 hoj).1) hdj hvq)
      rw [List.drop_eq_nil_of_le hln] at h1
      exact h1
    · have : j = l.length := by
        rcases Nat.lt_or_ge j l.length with h | h
        · have h1 := hjl j h; rw [hd j h] at h1; have := of_decide_eq_true h1.symm; omega
        · omega
      subst this
      rw [List.drop_eq_nil_of_le (Nat.le_refl _)] at hwp
      exact hwp
end
section
variable {α : Type} {K : Knd α} {P : Program} {w0 : World} {G0 : Heap} {K0 : List Nat} {G : Heap} {w : World} {M : List Chunk} {Q : Exit → Act → World → Prop} {a : Act} {N : Nat} {D : List Deferred} {L : List (Nat × Value)} {ops : Array Oper} {rest : List Oper} {d : Nat} {ty : TypeId} {pos : String} {af : Array Edge}
/-- A slice literal, as an own list. -/
theorem o_buildO {t e n : Nat} {ps : Array (Nat × Operand)} {vs : List (Nat × Value)} {cs : Array Value} {xs : List α} (hE : Env a N D L) (hN : Nat.blt d N = true) (hS : St w0 G0 K0 G w M) (hp : evp L ps.toList = some vs) (ht : slOf P t = some (e, K.sz)) (hb : bldSl P e n K.sz vs = some cs)
    (hR : ListR K G xs cs.toList) (hn : xs.length = n) (h1 : cs.toList.all one = true) (hz : cs.toList.length = n * K.sz) (hm : n ≤ 1000000)
    (k : ∀ A c C w' a', St w0 G0 K0 G w' (C :: M) → Own K e G A c xs C → Env a' N D ((d, .slice A xs.length c) :: L) → wpList P ops Q rest a' w') :
    wpList P ops Q (⟨some d, .buildSlice t n ps, ty, pos, af, none⟩ :: rest) a w := by
  subst hn
  have hmx : maxLen = 9223372036854775807 := rfl
  refine o_buildW hE hN hp ht hb fun a' hE' => k (some ⟨w.heap.size, 0, none⟩) xs.length [(w.heap.size, Row e xs.length K.sz xs.length cs.toList)] _ a' (hS.alloc _ ⟨cs, rfl, ?_, ?_⟩) ⟨cs.toList, hR, hz, h1, .inr ⟨_, rfl, Nat.le_refl _, by omega, rfl⟩⟩ hE'
  · rw [← hz]; simp
  · rw [← hz]; exact List.take_length
end
end Go.Proofs.YtiinipcmghhacaaDoor.X
