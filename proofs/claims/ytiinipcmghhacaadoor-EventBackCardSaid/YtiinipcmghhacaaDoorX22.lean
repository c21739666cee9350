/- A row made with a length; regions that draw their order and lay new blocks. -/
import Derived.Test.YtiinipcmghhacaaDoorX21
import Derived.Laws.MakeOwn
set_option linter.unusedVariables false
set_option linter.unusedSimpArgs false
namespace Go.Proofs.YtiinipcmghhacaaDoor.X
open Go
section
variable {P : Program} {Q : Exit → Act → World → Prop} {a : Act} {w : World} {N : Nat} {D : List Deferred} {L : List (Nat × Value)} {ops : Array Oper} {rest : List Oper}
variable {d : Nat} {ty : TypeId} {pos : String} {af : Array Edge}
variable {w0 : World} {G0 : Heap} {K0 : List Nat} {G : Heap} {M M' : List Chunk}
/-- `make([]T, n)`, an element being one cell: a row of its own. -/
theorem o_make1 {t T by' n : Nat} {x y : Operand} {q q' : IntKind} {z : Value} (hE : Env a N D L) (hN : Nat.blt d N = true) (hS : St w0 G0 K0 G w M) (hx : ev L x = some (.int q (n : Int))) (hy : ev L y = some (.int q' (n : Int))) (ht : apOf P t = some (T, 1, by')) (hz : zeroOf P T = some z)
    (hb : by' * n ≤ 281474976710656) (hn : n ≤ 9223372036854775807)
    (k : ∀ b w' a', St w0 G0 K0 G w' ([(b, Arr T (List.replicate n (cellsOf z).head!))] :: M) → Env a' N D ((d, .slice (some ⟨b, 0, none⟩) n n) :: L) → wpList P ops Q rest a' w') : wpList P ops Q (⟨some d, .makeSlice t x y, ty, pos, af, none⟩ :: rest) a w := by
  obtain ⟨i, z', hu, hi, hz', hsz, hby, hzs, hpos⟩ := ap_spec ht
  have hzz : z = z' := by
    unfold zeroOf at hz
    rw [hi] at hz
    simp [hz'] at hz
    exact hz.symm
  subst hzz
  subst hby
  have hb' : (i.bytes : Int) * (n : Int) ≤ 281474976710656 := by
    have h : ((i.bytes * n : Nat) : Int) ≤ 281474976710656 := by omega
    rwa [Int.natCast_mul] at h
  have hr := run_make (P := P) w t T i z hu hi hz' q q' n n (by omega) (Int.le_refl _) hb' (by omega)
  simp only [Int.toNat_natCast, hsz, Nat.mul_one] at hr
  have hc : ∃ u, z.cells = #[u] := by
    match h : z.cells, hzs with
    | ⟨[u]⟩, _ => exact ⟨u, rfl⟩
    | ⟨[]⟩, e => simp at e
    | ⟨_ :: _ :: _⟩, e => simp at e
  obtain ⟨u, hu'⟩ := hc
  have hm : madeCells z.cells n = (List.replicate n (cellsOf z).head!).toArray := by
    have h1 : (cellsOf z).head! = u := by rw [← cellsOf_cells, hu']; rfl
    rw [h1, hu']
    apply Array.ext
    · simp [madeCells]
    · intro j h1 h2
      simp [madeCells, Nat.mod_one]
  refine op_val (w' := w.alloc (.cells (madeCells z.cells n) T)) (v := .slice (some ⟨w.heap.size, 0, none⟩) n n) rfl rfl hE hN ?_ fun a' hE' => k _ _ a' (hS.alloc _ ?_) hE'
  · simp [execOp, hE.eval hx, hE.eval hy, hr]
  · unfold Arr
    rw [hm]
end
section
variable {P : Program} {Q : Exit → Act → World → Prop} {a : Act} {w : World} {N : Nat} {D : List Deferred} {L : List (Nat × Value)} {G : Heap}
def updG (g : Nat → Nat) (i x : Nat) : Nat → Nat := fun k => bif Nat.beq k i then x else g k
/-- What is asked of one operation: in whatever state in which it isn't done, and all that it waits for is. -/
def StepG (P : Program) (Q : Exit → Act → World → Prop) (N : Nat) (D : List Deferred) (L : List (Nat × Value)) (WI : (Nat → Nat) → (Nat → Bool) → Heap → World → Prop) (l : List Oper) (V : (Nat → Nat) → List (Value → Heap → Prop)) (Old : List (Nat × Value × Nat)) (g : Nat → Nat) (i : Nat) (o : Oper) (p : Value → Heap → Prop) : Prop :=
  ∀ a w G f, ClosedF l f → f i = false → (∀ j, (ons o).elem j = true → f j = true) → WI g f G w → Env a N D L →
    (∀ j d q, f j = true → dstOf l.toArray j = some d → (V g)[j]? = some q → ∃ v, a.tmps[d]? = some v ∧ q v G) → (∀ t v k, (t, v, k) ∈ Old → f k = false → a.tmps[t]? = some v) →
    wpList P l.toArray (Exit.then (fun a' w' => ∃ v G2 x, Heap.le G G2 ∧ WI (updG g i x) (updF f i) G2 w' ∧ (∀ d, o.dst = some d → a'.tmps[d]? = some v) ∧ a'.defers = D ∧ (∀ q, (V (updG g i x))[i]? = some q → q v G2)) Q) [o] a w
theorem drawnG {id : Nat} {l : List Oper} (WI : (Nat → Nat) → (Nat → Bool) → Heap → World → Prop) (V : (Nat → Nat) → List (Value → Heap → Prop)) (Old : List (Nat × Value × Nat)) (hm : P.follows .mixedOrders = true) (hb : backOk l.toArray = true) (hE : Env a N D L) (hW : WI (fun _ => 0) (fun _ => false) G w.drew) (hf : freshF l L [] = true)
    (hOld : ∀ t v k, (t, v, k) ∈ Old → a.tmps[t]? = some v ∧ dstOf l.toArray k = some t)
    (hV : ∀ g g' j, g j = g' j → (V g)[j]? = (V g')[j]?)
    (hmono : ∀ g, ∀ p ∈ V g, ∀ v A B, Heap.le A B → p v A → p v B)
    (hstep : ∀ g, AllF (StepG P Q N D L WI l V Old g) 0 l (V g))
    (hend : ∀ a w G' g f, Heap.le G G' → (∀ i, i < l.length → f i = true) → WI g f G' w → Env a N D L → (∀ j d q, dstOf l.toArray j = some d → (V g)[j]? = some q → ∃ v, a.tmps[d]? = some v ∧ q v G') → Q .normal a w) :
    (Code.region id l.toArray true).wp P Q a w := by
  obtain ⟨hf1, hf2⟩ := freshF_spec l L [] hf
  have dst_of : ∀ {j : Nat} {o : Oper} {d : Nat}, l[j]? = some o → dstOf l.toArray j = some d → o.dst = some d := by
    intro j o d ho hd
    unfold dstOf at hd
    simp only [List.getElem?_toArray, ho, Option.bind_some] at hd
    exact hd
  refine drawnI (fun listed a w => listed.size = l.length ∧ ∃ g G', Heap.le G G' ∧ ClosedF l (fun k => listed.getD k false) ∧ WI g (fun k => listed.getD k false) G' w ∧ Env a N D L ∧
      (∀ j d q, listed.getD j false = true → dstOf l.toArray j = some d → (V g)[j]? = some q → ∃ v, a.tmps[d]? = some v ∧ q v G') ∧ (∀ t v k, (t, v, k) ∈ Old → listed.getD k false = false → a.tmps[t]? = some v)) hm hb
    ⟨by simp, (fun _ => 0), G, Heap.le.refl _, ?_, ?_, hE, ?_, fun t v k hk _ => (hOld t v k hk).1⟩ ?_ ?_
  · intro k o _ hk
    exfalso
    revert hk
    simp only [Array.getD_eq_getD_getElem?, Array.getElem?_replicate]
    split <;> simp
  · have : (fun k => (Array.replicate l.toArray.size false).getD k false) = (fun _ => false) := by
      funext k
      simp only [Array.getD_eq_getD_getElem?, Array.getElem?_replicate]
      split <;> simp
    rw [this]
    exact hW
  · intro j d q hj
    exfalso
    revert hj
    simp only [Array.getD_eq_getD_getElem?, Array.getElem?_replicate]
    split <;> simp
  · rintro listed a w i o ⟨hsz, g, G', hle, hcl, hW', hE', hv, hO⟩ _ ho hfalse hon
    have hol : l[i]? = some o := by simpa using ho
    have hil : i < l.length := (List.getElem?_eq_some_iff.1 hol).1
    obtain ⟨p, hp, hok⟩ := (hstep g).get i o hol
    rw [Nat.zero_add] at hok
    have hnow : ∀ j, (ons o).elem j = true → listed.getD j false = true := by
      intro j hj
      have : j ∈ ons o := List.mem_of_elem_eq_true hj
      unfold ons at this
      obtain ⟨e, he, rfl⟩ := List.mem_map.1 this
      obtain ⟨he, hbd⟩ := List.mem_filter.1 he
      simp [Array.getD_eq_getD_getElem?, hon e (Array.mem_toList_iff.1 he) hbd]
    have h1 := hok a w G' (fun k => listed.getD k false) hcl (by simp [Array.getD_eq_getD_getElem?, hfalse]) hnow hW' hE' hv hO
    have hset : ∀ k, (listed.setIfInBounds i true).getD k false = updF (fun k => listed.getD k false) i k := by
      intro k
      unfold updF
      simp only [Array.getD_eq_getD_getElem?, Array.getElem?_setIfInBounds]
      by_cases e : i = k
      · subst e
        rw [if_pos rfl, if_pos (by omega)]
        simp
      · rw [if_neg e]
        have : Nat.beq k i = false := by
          cases hb : Nat.beq k i with
          | false => rfl
          | true => exact absurd (Nat.eq_of_beq_eq_true hb).symm e
        rw [this, Bool.false_or]
    have hfin : ∀ a' w', (∃ v G2 x, Heap.le G' G2 ∧ WI (updG g i x) (updF (fun k => listed.getD k false) i) G2 w' ∧ (∀ d, o.dst = some d → a'.tmps[d]? = some v) ∧ a'.defers = D ∧ (∀ q, (V (updG g i x))[i]? = some q → q v G2)) ∧ (∃ v, a'.tmps = (a.put o.dst v).tmps) →
        (listed.setIfInBounds i true).size = l.length ∧ ∃ g G', Heap.le G G' ∧ ClosedF l (fun k => (listed.setIfInBounds i true).getD k false) ∧ WI g (fun k => (listed.setIfInBounds i true).getD k false) G' w' ∧ Env a' N D L ∧
      (∀ j d q, (listed.setIfInBounds i true).getD j false = true → dstOf l.toArray j = some d → (V g)[j]? = some q → ∃ v, a'.tmps[d]? = some v ∧ q v G') ∧ (∀ t v k, (t, v, k) ∈ Old → (listed.setIfInBounds i true).getD k false = false → a'.tmps[t]? = some v) := by
      rintro a' w' ⟨⟨v, G2, x, hl2, hW2, hav, hdf, hpv⟩, ⟨u, hu⟩⟩
      have hget : ∀ t, o.dst ≠ some t → a'.tmps[t]? = a.tmps[t]? := fun t ht => by
        rw [hu]
        cases hd : o.dst with
        | none => rfl
        | some d =>
          rw [hd] at ht
          have hne : ¬ d = t := fun e => ht (congrArg some e)
          simp only [Act.put, Array.getElem?_setIfInBounds, if_neg hne]
      have hsize : a'.tmps.size = N := by
        rw [hu]
        cases o.dst <;> simp [Act.put, hE'.size]
      refine ⟨by simpa using hsz, updG g i x, G2, hle.trans hl2, ?_, ?_, ⟨hsize, hdf, fun t y ht => ?_⟩, fun j dj q hj hdj hq => ?_, fun t y k hk hfk => ?_⟩
      · intro k o' ho' hk j hj
        simp only [hset] at hk ⊢
        unfold updF at hk ⊢
        rw [Bool.or_eq_true] at hk ⊢
        rcases hk with hk | hk
        · have := Nat.eq_of_beq_eq_true hk
          subst this
          rw [hol] at ho'; cases ho'
          exact .inr (hnow j hj)
        · exact .inr (hcl k o' ho' hk j hj)
      · have : (fun k => (listed.setIfInBounds i true).getD k false) = updF (fun k => listed.getD k false) i := funext hset
        rw [this]
        exact hW2
      · rw [hget t (fun e => by have := (hf1 i o t hol e).1; rw [this] at ht; cases ht)]
        exact hE'.get t y ht
      · by_cases e : j = i
        · subst e
          exact ⟨v, hav dj (dst_of hol hdj), hpv q hq⟩
        · rw [hset] at hj
          unfold updF at hj
          have hji : Nat.beq j i = false := by
            cases hb : Nat.beq j i with
            | false => rfl
            | true => exact absurd (Nat.eq_of_beq_eq_true hb) e
          rw [hji, Bool.false_or] at hj
          rw [hV (updG g i x) g j (by unfold updG; rw [hji]; rfl)] at hq
          obtain ⟨y, hx1, hx2⟩ := hv j dj q hj hdj hq
          refine ⟨y, ?_, hmono g q (List.mem_of_getElem? hq) _ _ _ hl2 hx2⟩
          rw [hget dj fun hd => ?_]
          · exact hx1
          · cases hoj : l[j]? with
            | none => unfold dstOf at hdj; simp [hoj] at hdj
            | some oj => exact e (hf2 j i oj o dj hoj hol (dst_of hoj hdj) hd)
      · rw [hset] at hfk
        unfold updF at hfk
        rw [Bool.or_eq_false_iff] at hfk
        rw [hget t fun hd => ?_]
        · exact hO t y k hk hfk.2
        · have hdk := (hOld t y k hk).2
          cases hok : l[k]? with
          | none => unfold dstOf at hdk; simp [hok] at hdk
          | some ok =>
            have : k = i := hf2 k i ok o t hok hol (dst_of hok hdk) hd
            subst this
            simp at hfk
    unfold wpOp
    rw [ho]
    simp only
    unfold wpList at h1
    by_cases hw : Region.wanted o (yielded l.toArray a.tmps) = true
    · rw [if_pos hw] at h1 ⊢
      rcases h1 with h1 | ⟨h1, a', w', hq⟩
      · exact .inl (wp_exits (fun _ _ _ h => h) (fun ⟨a, w, h⟩ => ⟨a, w, h⟩) (Oper.wp_mono hfin (wp_put h1)))
      · exact .inr ⟨h1, a', w', hq⟩
    · rw [if_neg hw] at h1 ⊢
      exact hfin _ _ ⟨h1, _, rfl⟩
  · rintro listed a w ⟨hsz, g, G', hle, hcl, hW', hE', hv, hO⟩ hall
    have hd : ∀ i, i < l.length → listed.getD i false = true := fun i hi => by
      simp [Array.getD_eq_getD_getElem?, hall i (by simpa using hi)]
    refine hend a w G' g _ hle hd hW' hE' fun j d q hdj hq => ?_
    have hjl : j < l.length := by
      cases hoj : l[j]? with
      | none => unfold dstOf at hdj; simp [hoj] at hdj
      | some oj => exact (List.getElem?_eq_some_iff.1 hoj).1
    exact hv j d q (hd j hjl) hdj hq
end
end Go.Proofs.YtiinipcmghhacaaDoor.X
