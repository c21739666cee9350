/- Arrays in own blocks, and regions that draw their order. -/
import Derived.Test.YtiinipcmghhacaaDoorX6
import Derived.Orders
set_option linter.unusedVariables false
set_option linter.unusedSimpArgs false
namespace Go.Proofs.YtiinipcmghhacaaDoor.X
open Go
section
variable {P : Program} {Q : Exit → Act → World → Prop} {a : Act} {w : World} {N : Nat} {D : List Deferred} {L : List (Nat × Value)} {ops : Array Oper} {rest : List Oper}
variable {d : Nat} {ty : TypeId} {pos : String} {af : Array Edge}
variable {w0 : World} {G0 : Heap} {K0 : List Nat} {G : Heap} {M M' : List Chunk}

/-! ## A block told by the list of its cells -/
def Arr (T : TypeId) (vs : List Value) (o : Obj) : Prop := o = .cells vs.toArray T (0, 0)
theorem St.turnP {b : Nat} {p q : Obj → Prop} (h : St w0 G0 K0 G w M) (hm : RepM b p q M M') (hpq : ∀ o, p o → q o) : St w0 G0 K0 G w M' := by
  obtain ⟨A, X, Y, B, rfl, rfl⟩ := hm.split
  exact h.weak1 hpq
theorem St.conv {b : Nat} {T : TypeId} {L1 L2 : List (Nat × Value)} (h : St w0 G0 K0 G w M) (hm : RepM b (Cells T L1) (Cells T L2) M M') (hs : AllIn L1 L2) : St w0 G0 K0 G w M' :=
  h.turnP hm fun o ⟨c, e, hc⟩ => ⟨c, e, fun t v ht => hc t v (hs.get t v ht)⟩
theorem o_allocR {T : TypeId} {z : Value} (hE : Env a N D L) (hN : Nat.blt d N = true) (hS : St w0 G0 K0 G w M) (hz : zeroOf P T = some z)
    (k : ∀ b w' a', St w0 G0 K0 G w' ([(b, Arr T (cellsOf z))] :: M) → Env a' N D ((d, .pointer (some ⟨b, 0, none⟩)) :: L) → wpList P ops Q rest a' w') : wpList P ops Q (⟨some d, .alloc T, ty, pos, af, none⟩ :: rest) a w := by
  refine op_val (w' := w.alloc (.cells z.cells T)) (v := .pointer (some ⟨w.heap.size, 0, none⟩)) rfl rfl hE hN ?_ fun a' hE' => k _ _ a' (hS.alloc _ ?_) hE'
  · unfold zeroOf at hz
    cases hi : P.info? T with
    | none => simp [hi] at hz
    | some i =>
      simp [hi] at hz
      simp [execOp, Instr.alloc, zeroValue, typeInfo, hi, hz, newVar, run_row]
  · unfold Arr
    rw [← cellsOf_cells]
theorem St.arr {b : Nat} {T : TypeId} {vs : List Value} (h : St w0 G0 K0 G w M) (hm : InM M b (Arr T vs)) : w.heap[b]? = some (.cells vs.toArray T (0, 0)) := by
  obtain ⟨o, h1, rfl⟩ := h.mem _ hm.mem
  exact h1
theorem St.arrCell {b : Nat} {T : TypeId} {vs : List Value} {t : Nat} (h : St w0 G0 K0 G w M) (hm : InM M b (Arr T vs)) : w.cell? ⟨b, t, none⟩ = vs[t]? := by
  simp [World.cell?, h.arr hm]
theorem St.arrSoft {b : Nat} {T : TypeId} {vs : List Value} {t : Nat} (h : St w0 G0 K0 G w M) (hm : InM M b (Arr T vs)) : w.frozen? ⟨b, t, none⟩ = false := by
  simp [World.frozen?, h.arr hm]
theorem o_ldR {t T : TypeId} {x : Operand} {b off : Nat} {vs : List Value} {v : Value} (hE : Env a N D L) (hN : Nat.blt d N = true) (hS : St w0 G0 K0 G w M) (hx : ev L x = some (.pointer (some ⟨b, off, none⟩))) (ht : scal P t = true)
    (hm : InM M b (Arr T vs)) (hv : vs[off]? = some v) (k : ∀ a', Env a' N D ((d, v) :: L) → wpList P ops Q rest a' w) : wpList P ops Q (⟨some d, .load t x, ty, pos, af, none⟩ :: rest) a w :=
  op_val rfl rfl hE hN (by simp [execOp, hE.eval hx, Instr.loadAt, Instr.sureAddr, run_loadS ht ((hS.arrCell hm).trans hv)]) k
theorem o_ldRA {t T : TypeId} {x : Operand} {b : Nat} {vs : List Value} (hE : Env a N D L) (hN : Nat.blt d N = true) (hS : St w0 G0 K0 G w M) (hx : ev L x = some (.pointer (some ⟨b, 0, none⟩))) (ht : aggSz P t = some vs.length)
    (hm : InM M b (Arr T vs)) (k : ∀ a', Env a' N D ((d, .agg vs.toArray) :: L) → wpList P ops Q rest a' w) : wpList P ops Q (⟨some d, .load t x, ty, pos, af, none⟩ :: rest) a w :=
  op_val rfl rfl hE hN (by
    have := run_loadA (P := P) (w := w) (t := t) (ad := ⟨b, 0, none⟩) (vs := vs) ht (fun j u hj => by rw [Addr.add_lit]; rw [hS.arrCell hm]; simpa using hj)
    simp [execOp, hE.eval hx, Instr.loadAt, Instr.sureAddr, this]) k
theorem St.arrSet {b : Nat} {T : TypeId} {vs : List Value} {t : Nat} {v : Value} (h : St w0 G0 K0 G w M) (hm : RepM b (Arr T vs) (Arr T (vs.set t v)) M M') : St w0 G0 K0 G (w.setCell ⟨b, t, none⟩ v) M' := by
  have hb : w.heap[b]? = some (.cells vs.toArray T (0, 0)) := by
    obtain ⟨A, X, Y, B, rfl, rfl⟩ := hm.split
    exact h.arr (InM.mk' A X Y B)
  refine h.turnM hm rfl rfl rfl (by simp [World.setCell]) (fun k hk => ?_) ⟨_, ?_, rfl⟩
  · simp only [World.setCell, Array.getElem?_modify]
    rw [if_neg (fun e => hk e.symm)]
  · simp [World.setCell, Array.getElem?_modify, hb]
theorem o_stR {t T : TypeId} {x y : Operand} {b off : Nat} {vs : List Value} {v : Value} (hE : Env a N D L) (hS : St w0 G0 K0 G w M) (hx : ev L x = some (.pointer (some ⟨b, off, none⟩))) (hy : ev L y = some v) (h1 : one v = true) (ht : scal P t = true)
    (hm : RepM b (Arr T vs) (Arr T (vs.set off v)) M M') (hu : off < vs.length) (k : ∀ w', St w0 G0 K0 G w' M' → wpList P ops Q rest a w') : wpList P ops Q (⟨none, .store t x y, ty, pos, af, none⟩ :: rest) a w := by
  obtain ⟨A, X, Y, B, rfl, rfl⟩ := hm.split
  have hm' : InM (A ++ (X ++ (b, Arr T vs) :: Y) :: B) b (Arr T vs) := InM.mk' A X Y B
  refine op_skip rfl rfl ?_ (k _ (hS.arrSet hm))
  have hc : w.cell? ⟨b, off, none⟩ = some vs[off] := by rw [hS.arrCell hm']; simp [hu]
  simp [execOp, hE.eval hx, hE.eval hy, Instr.storeAt, Instr.sureAddr, run_storeS ht h1 hc (hS.arrSoft hm')]
theorem St.convHead {b : Nat} {T : TypeId} {L1 L2 : List (Nat × Value)} {r : List Chunk} (h : St w0 G0 K0 G w ([(b, Cells T L1)] :: r)) (hs : AllIn L1 L2) : St w0 G0 K0 G w ([(b, Cells T L2)] :: r) := h.conv (.here .here) hs
theorem o_allocL {T : TypeId} {z : Value} (Lb : List (Nat × Value)) (hE : Env a N D L) (hN : Nat.blt d N = true) (hS : St w0 G0 K0 G w M) (hz : zeroOf P T = some z) (hL : AllIn (enum 0 (cellsOf z)) Lb)
    (k : ∀ b w' a', St w0 G0 K0 G w' ([(b, Cells T Lb)] :: M) → Env a' N D ((d, .pointer (some ⟨b, 0, none⟩)) :: L) → wpList P ops Q rest a' w') : wpList P ops Q (⟨some d, .alloc T, ty, pos, af, none⟩ :: rest) a w :=
  o_alloc hE hN hS hz fun b w' a' hS' hE' => k b w' a' (hS'.convHead hL) hE'
theorem o_boxL {T : TypeId} {x : Operand} {v : Value} (Lb : List (Nat × Value)) (hE : Env a N D L) (hN : Nat.blt d N = true) (hS : St w0 G0 K0 G w M) (hx : ev L x = some v) (hL : AllIn (enum 0 (cellsOf v)) Lb)
    (k : ∀ b w' a', St w0 G0 K0 G w' ([(b, Cells T Lb)] :: M) → Env a' N D ((d, .pointer (some ⟨b, 0, none⟩)) :: L) → wpList P ops Q rest a' w') : wpList P ops Q (⟨some d, .box T x, ty, pos, af, none⟩ :: rest) a w :=
  o_box hE hN hS hx fun b w' a' hS' hE' => k b w' a' (hS'.convHead hL) hE'
/-- A whole array is stored. -/
theorem run_storeAllFrom {ad : Nat} : ∀ (vs : List Value) (i : Nat) (us : List Value) (w : World) (T : TypeId), vs.all one = true → i + vs.length = us.length → w.heap[ad]? = some (.cells us.toArray T (0, 0)) →
    ∃ w', (storeCells ⟨ad, 0, none⟩ vs i).run P w = .ok () w' ∧ w'.os = w.os ∧ w'.tape = w.tape ∧ w'.output = w.output ∧ w'.heap.size = w.heap.size ∧ (∀ k, k ≠ ad → w'.heap[k]? = w.heap[k]?) ∧ w'.heap[ad]? = some (.cells (us.take i ++ vs).toArray T (0, 0))
  | [], i, us, w, T, _, hl, hb => ⟨w, by simp [storeCells], rfl, rfl, rfl, rfl, fun _ _ => rfl, by simp at hl; rw [hb, hl]; simp⟩
  | v :: r, i, us, w, T, h1, hl, hb => by
    simp only [List.all_cons, Bool.and_eq_true] at h1
    simp only [List.length_cons] at hl
    have hlt : i < us.length := by omega
    have hc : w.cell? ⟨ad, i, none⟩ = some us[i] := by simp [World.cell?, hb, hlt]
    have hf : w.frozen? ⟨ad, i, none⟩ = false := by simp [World.frozen?, hb]
    have hrun : (store (Addr.add ⟨ad, 0, none⟩ i) v).run P w = .ok () (w.setCell ⟨ad, i, none⟩ v) := by
      rw [show Addr.add ⟨ad, 0, none⟩ i = ⟨ad, i, none⟩ from by rw [Addr.add_lit]; simp]
      exact run_store1 h1.1 hc hf
    have hb' : (w.setCell ⟨ad, i, none⟩ v).heap[ad]? = some (.cells (us.set i v).toArray T (0, 0)) := by
      simp [World.setCell, Array.getElem?_modify, hb]
    obtain ⟨w', hr, e1, e2, e3, e4, e5, e6⟩ := run_storeAllFrom r (i + 1) (us.set i v) _ T h1.2 (by simp; omega) hb'
    refine ⟨w', by simp only [storeCells, Sem.run_bind, hrun, Result.andThen_ok, hr], e1, e2, e3, by rw [e4]; simp [World.setCell], fun k hk => ?_, ?_⟩
    · rw [e5 k hk]
      simp only [World.setCell, Array.getElem?_modify]
      rw [if_neg (fun e => hk e.symm)]
    · rw [e6]
      congr 3
      rw [List.take_add_one]
      have hset : (List.take i us).set i v = List.take i us := List.set_eq_of_length_le (by simp; omega)
      simp [List.take_set, hlt, hset]
theorem o_stRA {t T : TypeId} {x y : Operand} {b : Nat} {us vs : List Value} (hE : Env a N D L) (hS : St w0 G0 K0 G w M) (hx : ev L x = some (.pointer (some ⟨b, 0, none⟩))) (hy : ev L y = some (.agg vs.toArray)) (ht : aggSz P t = some vs.length)
    (hm : RepM b (Arr T us) (Arr T vs) M M') (h1 : vs.all one = true ∧ vs.length = us.length) (k : ∀ w', St w0 G0 K0 G w' M' → wpList P ops Q rest a w') : wpList P ops Q (⟨none, .store t x y, ty, pos, af, none⟩ :: rest) a w := by
  obtain ⟨A, X, Y, B, rfl, rfl⟩ := hm.split
  have hb := hS.arr (InM.mk' A X Y B)
  obtain ⟨w', hr, e1, e2, e3, e4, e5, e6⟩ := run_storeAllFrom (P := P) (ad := b) vs 0 us w T h1.1 (by omega) hb
  obtain ⟨_, i, hi, hs⟩ := agg_spec (w := w) ht
  refine op_skip rfl rfl ?_ (k w' (hS.turnM hm e1 e2 e3 e4 e5 ⟨_, e6, by simp [Arr]⟩))
  simp [execOp, hE.eval hx, hE.eval hy, Instr.storeAt, Instr.sureAddr, storeVar, run_sizeOf' hi, hs, Value.cells, hr]
/-! ## Results that lie in memory -/
theorem Env.resS {t ty : Nat} {b off : Nat} {T : TypeId} {Lb : List (Nat × Value)} {v : Value} {r : List ResultVar} {vs : List Value} (hE : Env a N D L) (hS : St w0 G0 K0 G w M) (h : lk L t = some (.pointer (some ⟨b, off, none⟩))) (ht : scal P ty = true) (hm : InM M b (Cells T Lb)) (hv : lk Lb off = some v) (k : Res P a w r vs) : Res P a w (.cell t ty :: r) (v :: vs) :=
  .cell (hE.get t _ h) (run_loadS ht (hS.cell hm hv)) k
theorem Env.resA {t ty n : Nat} {b off : Nat} {T : TypeId} {Lb : List (Nat × Value)} {us : List Value} {r : List ResultVar} {vs : List Value} (hE : Env a N D L) (hS : St w0 G0 K0 G w M) (h : lk L t = some (.pointer (some ⟨b, off, none⟩))) (ht : aggSz P ty = some n) (hm : InM M b (Cells T Lb)) (hv : lks Lb off n = some us) (k : Res P a w r vs) : Res P a w (.cell t ty :: r) (.agg us.toArray :: vs) :=
  .cell (hE.get t _ h) (by
    obtain ⟨h1, h2⟩ := lks_get _ _ _ hv
    exact run_loadA (by rw [h1]; exact ht) (fun j u hj => by rw [Addr.add_lit]; exact hS.cell hm (h2 j u hj))) k
theorem Env.resR {t ty : Nat} {b : Nat} {T : TypeId} {us : List Value} {r : List ResultVar} {vs : List Value} (hE : Env a N D L) (hS : St w0 G0 K0 G w M) (h : lk L t = some (.pointer (some ⟨b, 0, none⟩))) (ht : aggSz P ty = some us.length) (hm : InM M b (Arr T us)) (k : Res P a w r vs) : Res P a w (.cell t ty :: r) (.agg us.toArray :: vs) :=
  .cell (hE.get t _ h) (run_loadA ht (fun j u hj => by rw [Addr.add_lit, hS.arrCell hm]; simpa using hj)) k

/-! ## A region that draws its order -/
def backOk (ops : Array Oper) : Bool := ops.toList.zipIdx.all fun (o, i) => o.after.toList.all fun e => !Region.binds .any e || decide (e.on < i)
theorem ready_nil {listed : Array Bool} (hb : backOk ops = true) (hs : listed.size = ops.size) (h : Region.ready .any ops listed = []) : ∀ i, i < ops.size → listed[i]? = some true := by
  intro i
  induction i using Nat.strongRecOn with
  | _ i ih =>
    intro hi
    have hl : i < listed.size := by omega
    cases hv : listed[i] with
    | true => simp [hl, hv]
    | false =>
      exfalso
      have hmem : i ∈ Region.ready .any ops listed := by
        unfold Region.ready
        simp only [List.mem_filter, List.mem_range]
        refine ⟨hi, ?_⟩
        simp only [Bool.and_eq_true, Bool.not_eq_true']
        refine ⟨by simp [Array.getD_eq_getD_getElem?, hl, hv], ?_⟩
        have hall : (ops[i].after.all fun e => !Region.binds .any e || listed.getD e.on false) = true := by
          rw [Array.all_eq_true]
          intro j hj
          cases hbd : Region.binds .any ops[i].after[j] with
          | false => rfl
          | true =>
          have hon : (ops[i].after[j]).on < i := by
            unfold backOk at hb
            rw [List.all_eq_true] at hb
            have h1 := hb (ops[i], i) (by
              rw [List.mem_zipIdx_iff_getElem?]
              simp [hi])
            simp only [List.all_eq_true, Bool.or_eq_true, Bool.not_eq_true', decide_eq_true_eq] at h1
            exact (h1 _ (Array.mem_toList_iff.2 (Array.getElem_mem hj))).resolve_left (by rw [hbd]; decide)
          have := ih _ hon (by omega)
          have h2 : listed.getD (ops[i].after[j]).on false = true := by simp [Array.getD_eq_getD_getElem?, this]
          rw [h2]; simp
        simp only [Array.getElem?_eq_getElem hi, Option.map_some, Option.getD_some]
        exact hall
      rw [h] at hmem
      simp at hmem
/-- Every order: `I` is what holds when the operations in `listed` are done. -/
theorem drawnI {id : Nat} (I : Array Bool → Act → World → Prop) (hm : P.follows .mixedOrders = true) (hb : backOk ops = true) (h0 : I (Array.replicate ops.size false) a w.drew)
    (hstep : ∀ listed a w i o, I listed a w → listed.size = ops.size → ops[i]? = some o → listed[i]? = some false → (∀ e ∈ o.after, Region.binds .any e = true → listed[e.on]? = some true) → wpOp P ops Q i (I (listed.setIfInBounds i true)) a w)
    (hend : ∀ listed a w, I listed a w → (∀ i, i < ops.size → listed[i]? = some true) → Q .normal a w) : (Code.region id ops true).wp P Q a w := by
  refine wp_region_any hm ?_
  have key : ∀ fuel listed a w, I listed a w → listed.size = ops.size → (listed.toList.filter (! ·)).length ≤ fuel → wpAny P .any ops Q fuel listed a w := by
    intro fuel
    induction fuel with
    | zero =>
      intro listed a w hI hs hf
      have hall : ∀ i, i < ops.size → listed[i]? = some true := by
        intro i hi
        have hl : i < listed.size := by omega
        cases hv : listed[i] with
        | true => simp [hl, hv]
        | false =>
          have : false ∈ listed.toList.filter (! ·) := by
            rw [List.mem_filter]
            exact ⟨by rw [Array.mem_toList_iff, ← hv]; exact Array.getElem_mem hl, rfl⟩
          have := List.length_pos_of_mem this
          omega
      refine ⟨?_, hend _ _ _ hI hall⟩
      unfold Region.ready
      rw [List.filter_eq_nil_iff]
      intro i hi
      have := hall i (List.mem_range.1 hi)
      simp [Array.getD_eq_getD_getElem?, this]
    | succ fuel ih =>
      intro listed a w hI hs hf
      refine ⟨fun hn => hend _ _ _ hI (ready_nil hb hs hn), fun i hi => ?_⟩
      unfold Region.ready at hi
      simp only [List.mem_filter, List.mem_range, Bool.and_eq_true, Bool.not_eq_true'] at hi
      obtain ⟨hlt, h1, h2⟩ := hi
      have hl : i < listed.size := by omega
      have hfalse : listed[i]? = some false := by
        simp only [Array.getD_eq_getD_getElem?, Array.getElem?_eq_getElem hl, Option.getD_some] at h1
        simp [hl, h1]
      have ho : ops[i]? = some ops[i] := by simp [hlt]
      rw [ho] at h2
      simp only [Option.map_some, Option.getD_some] at h2
      refine wpOp_mono (fun a w h => ih _ _ _ h (by simp [hs]) ?_) (hstep listed a w i ops[i] hI hs ho hfalse ?_)
      · have hcount : ∀ (l : List Bool) (i : Nat), l[i]? = some false → ((l.set i true).filter (! ·)).length + 1 = (l.filter (! ·)).length := by
          intro l
          induction l with
          | nil => intro i h; simp at h
          | cons x r ih2 =>
            intro i h
            cases i with
            | zero => simp at h; subst h; simp
            | succ i =>
              have := ih2 i (by simpa using h)
              cases x <;> simp [List.set_cons_succ, List.filter_cons] at this ⊢ <;> omega
        have := hcount listed.toList i (by simpa using hfalse)
        simp only [Array.toList_setIfInBounds]
        omega
      · intro e he hbind
        rw [Array.all_eq_true] at h2
        obtain ⟨j, hj, rfl⟩ := Array.mem_iff_getElem.1 he
        have := h2 j hj
        simp only [hbind, Bool.not_true, Bool.false_or] at this
        simp only [Array.getD_eq_getD_getElem?] at this
        cases hq : listed[(ops[i].after[j]).on]? with
        | none => simp [hq] at this
        | some b => simp [hq] at this; rw [this]
  exact key _ _ _ _ h0 (by simp) (by
    have : ∀ (l : List Bool), (l.filter (! ·)).length ≤ l.length := fun l => List.length_filter_le _ _
    have h2 := this (Array.replicate ops.size false).toList
    simp)

theorem wp_put {o : Oper} {K : Act → World → Prop} (h : o.wp P a w K Q) : o.wp P a w (fun a' w' => K a' w' ∧ ∃ v, a'.tmps = (a.put o.dst v).tmps) Q := by
  unfold Oper.wp at *
  generalize (execOp a.eval o).run P w = res at *
  cases res with
  | ok n w' =>
    cases n <;> simp only [Oper.upon] at h ⊢ <;>
      first
        | exact ⟨h, _, rfl⟩
        | exact ⟨h, undef, by cases o.dst <;> rfl⟩
        | exact Calls.mono h (fun e w'' he => by
            cases e with
            | returned v => exact ⟨he, v, rfl⟩
            | panicked c => exact he
            | outgrown => exact he)
        | exact Rows.mono h (fun v _ he => ⟨he, v, rfl⟩)
  | halt x w' => cases x <;> simp only [Oper.upon] at h ⊢ <;> exact h
def dstOf (ops : Array Oper) (j : Nat) : Option Nat := (ops[j]?).bind (·.dst)
def ons (o : Oper) : List Nat := (o.after.toList.filter (Region.binds .any)).map (·.on)
def AllS (S : Oper → (Value → Heap → Prop) → Prop) : List Oper → List (Value → Heap → Prop) → Prop
  | [], [] => True
  | o :: r, p :: q => S o p ∧ AllS S r q
  | _, _ => False
theorem AllS.get {S : Oper → (Value → Heap → Prop) → Prop} : ∀ {l : List Oper} {V : List (Value → Heap → Prop)}, AllS S l V → ∀ (i : Nat) o, l[i]? = some o → ∃ p, V[i]? = some p ∧ S o p
  | [], [], _, i, o, h => by simp at h
  | o :: r, p :: q, ⟨h1, h2⟩, i, o', h => by
    cases i with
    | zero => simp at h; subst h; exact ⟨p, rfl, h1⟩
    | succ i => simpa using AllS.get h2 i o' (by simpa using h)
  | [], _ :: _, h, _, _, _ => h.elim
  | _ :: _, [], h, _, _, _ => h.elim
theorem wp_exits {o : Oper} {K : Act → World → Prop} {Q1 Q2 : Exit → Act → World → Prop} (h1 : ∀ c a w, Q1 (.panic c) a w → Q2 (.panic c) a w) (h2 : LetsOut Q1 → LetsOut Q2) (h : o.wp P a w K Q1) : o.wp P a w K Q2 := by
  unfold Oper.wp at *
  generalize (execOp a.eval o).run P w = res at *
  cases res with
  | ok n w' =>
    cases n <;> simp only [Oper.upon] at h ⊢ <;>
      first
        | exact h
        | exact Calls.mono h (fun e w'' he => by
            cases e with
            | returned v => exact he
            | panicked c => exact h1 _ _ _ he
            | outgrown => exact h2 he)
  | halt x w' => cases x <;> simp only [Oper.upon] at h ⊢ <;> first | exact h | exact h1 _ _ _ h
/-- Each operation has a slot of its own, that isn't told in `L`. -/
def freshOk (ops : List Oper) (L : List (Nat × Value)) : List Nat → Bool
  | seen => match ops with
    | [] => true
    | o :: r => match o.dst with
      | some d => (lk L d).isNone && !(seen.elem d) && freshOk r L (d :: seen)
      | none => false
theorem freshOk_spec : ∀ (l : List Oper) (L : List (Nat × Value)) (seen : List Nat), freshOk l L seen = true → (∀ (i : Nat) (o : Oper), l[i]? = some o → ∃ d, o.dst = some d ∧ lk L d = none ∧ d ∉ seen) ∧ (∀ (i j : Nat) (o o' : Oper) (d : Nat), l[i]? = some o → l[j]? = some o' → o.dst = some d → o'.dst = some d → i = j)
  | [], _, _, _ => ⟨by simp, by simp⟩
  | o :: r, L, seen, h => by
    unfold freshOk at h
    cases hd : o.dst with
    | none => simp [hd] at h
    | some d =>
      simp only [hd, Bool.and_eq_true, Bool.not_eq_true', Option.isNone_iff_eq_none] at h
      obtain ⟨⟨h1, h2⟩, h4⟩ := h
      obtain ⟨ih1, ih2⟩ := freshOk_spec r L (d :: seen) h4
      have h2' : d ∉ seen := by intro hm; rw [List.elem_eq_true_of_mem hm] at h2; cases h2
      refine ⟨fun i o' ho => ?_, fun i j o1 o2 e he1 he2 hd1 hd2 => ?_⟩
      · cases i with
        | zero =>
          simp at ho; subst ho
          exact ⟨d, hd, h1, h2'⟩
        | succ i =>
          obtain ⟨d', a1, a2, a3⟩ := ih1 i o' (by simpa using ho)
          exact ⟨d', a1, a2, fun hm => a3 (List.mem_cons_of_mem _ hm)⟩
      · cases i with
        | zero =>
          cases j with
          | zero => rfl
          | succ j =>
            simp at he1; subst he1
            obtain ⟨d', a1, _, a3⟩ := ih1 j o2 (by simpa using he2)
            rw [hd] at hd1; cases hd1
            rw [hd2] at a1; cases a1
            exact absurd (List.mem_cons_self) a3
        | succ i =>
          cases j with
          | zero =>
            simp at he2; subst he2
            obtain ⟨d', a1, _, a3⟩ := ih1 i o1 (by simpa using he1)
            rw [hd] at hd2; cases hd2
            rw [hd1] at a1; cases a1
            exact absurd (List.mem_cons_self) a3
          | succ j => rw [ih2 i j o1 o2 e (by simpa using he1) (by simpa using he2) hd1 hd2]
theorem Env.add (h : Env a N D L) {t : Nat} {v : Value} (hv : a.tmps[t]? = some v) : Env a N D ((t, v) :: L) := ⟨h.size, h.defers, fun t' v' ht => by
  rcases lk_cons ht with ⟨rfl, rfl⟩ | ⟨_, ht⟩
  · exact hv
  · exact h.get _ _ ht⟩
/-- What is asked of one operation of a region that draws: in whatever state in which those that it waits for are done. -/
def StepOk (P : Program) (Q : Exit → Act → World → Prop) (N : Nat) (D : List Deferred) (L : List (Nat × Value)) (w0 : World) (G0 : Heap) (K0 : List Nat) (G : Heap) (M : List Chunk) (ops : Array Oper) (V : List (Value → Heap → Prop)) (o : Oper) (p : Value → Heap → Prop) : Prop :=
  ∀ a w G', Heap.le G G' → St w0 G0 K0 G' w M → Env a N D L → (∀ j d q, (ons o).elem j = true → dstOf ops j = some d → V[j]? = some q → ∃ v, a.tmps[d]? = some v ∧ q v G') →
    wpList P ops (Exit.then (fun a' w' => ∃ v G2 d, Heap.le G' G2 ∧ St w0 G0 K0 G2 w' M ∧ o.dst = some d ∧ a'.tmps[d]? = some v ∧ a'.defers = D ∧ p v G2) Q) [o] a w
theorem drawnV {id : Nat} {l : List Oper} (V : List (Value → Heap → Prop)) (hm : P.follows .mixedOrders = true) (hb : backOk l.toArray = true) (hE : Env a N D L) (hS : St w0 G0 K0 G w M) (hf : freshOk l L [] = true)
    (hmono : ∀ p ∈ V, ∀ v A B, Heap.le A B → p v A → p v B)
    (hstep : AllS (StepOk P Q N D L w0 G0 K0 G M l.toArray V) l V)
    (hend : ∀ a w G', Heap.le G G' → St w0 G0 K0 G' w M → Env a N D L → (∀ j d q, dstOf l.toArray j = some d → V[j]? = some q → ∃ v, a.tmps[d]? = some v ∧ q v G') → Q .normal a w) :
    (Code.region id l.toArray true).wp P Q a w := by
  obtain ⟨hf1, hf2⟩ := freshOk_spec l L [] hf
  refine drawnI (fun listed a w => ∃ G', Heap.le G G' ∧ St w0 G0 K0 G' w M ∧ Env a N D L ∧ ∀ (i : Nat) (o : Oper) (p : Value → Heap → Prop) (d : Nat), listed[i]? = some true → l[i]? = some o → o.dst = some d → V[i]? = some p → ∃ v, a.tmps[d]? = some v ∧ p v G') hm hb ⟨G, Heap.le.refl _, hS.drew, hE, ?_⟩ ?_ ?_
  · intro i o p d hi
    rw [Array.getElem?_replicate] at hi
    split at hi <;> simp at hi
  · rintro listed a w i o ⟨G', hle, hS', hE', hv⟩ hsz ho hfalse hon
    have hol : l[i]? = some o := by simpa using ho
    obtain ⟨p, hp, hok⟩ := hstep.get i o hol
    obtain ⟨d, hd, hdL, _⟩ := hf1 i o hol
    have h1 := hok a w G' hle hS' hE' (by
      intro j dj q hj hdj hq
      unfold dstOf at hdj
      cases hoj : l[j]? with
      | none => simp [hoj] at hdj
      | some oj =>
        simp only [List.getElem?_toArray, hoj, Option.bind_some] at hdj
        refine hv j oj q dj ?_ hoj hdj hq
        have : j ∈ ons o := List.mem_of_elem_eq_true hj
        unfold ons at this
        obtain ⟨e, he, rfl⟩ := List.mem_map.1 this
        obtain ⟨he, hbd⟩ := List.mem_filter.1 he
        exact hon e (Array.mem_toList_iff.1 he) hbd)
    have hfin : ∀ a' w', (∃ v G2 d, Heap.le G' G2 ∧ St w0 G0 K0 G2 w' M ∧ o.dst = some d ∧ a'.tmps[d]? = some v ∧ a'.defers = D ∧ p v G2) ∧ (∃ v, a'.tmps = (a.put o.dst v).tmps) →
        ∃ G', Heap.le G G' ∧ St w0 G0 K0 G' w' M ∧ Env a' N D L ∧ ∀ (i' : Nat) (o : Oper) (p : Value → Heap → Prop) (d : Nat), (listed.setIfInBounds i true)[i']? = some true → l[i']? = some o → o.dst = some d → V[i']? = some p → ∃ v, a'.tmps[d]? = some v ∧ p v G' := by
      rintro a' w' ⟨⟨v, G2, d', hl2, hS2, hd', hav, hdf, hpv⟩, ⟨u, hu⟩⟩
      have hdd : d' = d := by rw [hd] at hd'; exact (Option.some.inj hd').symm
      subst hdd
      have hget : ∀ t, t ≠ d' → a'.tmps[t]? = a.tmps[t]? := fun t ht => by
        rw [hu, hd]
        simp only [Act.put, Array.getElem?_setIfInBounds, if_neg (fun e => ht (Eq.symm e))]
      refine ⟨G2, hle.trans hl2, hS2, ⟨by rw [hu, hd]; simp [Act.put, hE'.size], hdf, fun t x ht => ?_⟩, fun j oj q dj hj hoj hdj hq => ?_⟩
      · rw [hget t (fun e => by subst e; rw [hdL] at ht; cases ht)]
        exact hE'.get t x ht
      · by_cases e : j = i
        · subst e
          rw [hol] at hoj; cases hoj
          rw [hp] at hq; cases hq
          rw [hd] at hdj; cases hdj
          exact ⟨v, hav, hpv⟩
        · rw [Array.getElem?_setIfInBounds, if_neg (fun h => e h.symm)] at hj
          obtain ⟨x, hx1, hx2⟩ := hv j oj q dj hj hoj hdj hq
          have hne : dj ≠ d' := fun h => e (hf2 j i oj o d' hoj hol (h ▸ hdj) hd)
          exact ⟨x, by rw [hget dj hne]; exact hx1, hmono q (List.mem_of_getElem? hq) _ _ _ hl2 hx2⟩
    unfold wpOp
    rw [ho]
    simp only
    unfold wpList at h1
    by_cases hw : Region.wanted o (yielded l.toArray a.tmps) = true
    · rw [if_pos hw] at h1 ⊢
      rcases h1 with h1 | ⟨h1, a', w', hq⟩
      · exact .inl (wp_exits (fun _ _ _ h => h) (fun ⟨a, w, h⟩ => ⟨a, w, h⟩) (Oper.wp_mono hfin (wp_put h1)))
      · exact .inr ⟨h1, a', w', hq⟩
    · rw [if_neg hw] at h1 ⊢
      exact hfin _ _ ⟨h1, _, rfl⟩
  · rintro listed a w ⟨G', hle, hS', hE', hv⟩ hall
    refine hend a w G' hle hS' hE' fun j d q hd hq => ?_
    unfold dstOf at hd
    cases hoj : l[j]? with
    | none => simp [hoj] at hd
    | some oj =>
      simp only [List.getElem?_toArray, hoj, Option.bind_some] at hd
      have hlt : j < l.toArray.size := by
        have := (List.getElem?_eq_some_iff.1 hoj).1
        simpa using this
      exact hv j oj q d (hall j hlt) hoj hd hq

def StepP (P : Program) (Q : Exit → Act → World → Prop) (N : Nat) (D : List Deferred) (L : List (Nat × Value)) (w0 : World) (G0 : Heap) (K0 : List Nat) (G : Heap) (M : List Chunk) (ops : Array Oper) (V : List (Value → Prop)) (o : Oper) (p : Value → Prop) : Prop :=
  ∀ a w G1, Heap.le G G1 → St w0 G0 K0 G1 w M → Env a N D L → (∀ j d q, (ons o).elem j = true → dstOf ops j = some d → V[j]? = some q → ∃ v, a.tmps[d]? = some v ∧ q v) →
    wpList P ops (Exit.then (fun a' w' => ∃ v d, St w0 G0 K0 G1 w' M ∧ o.dst = some d ∧ a'.tmps[d]? = some v ∧ a'.defers = D ∧ p v) Q) [o] a w
def AllP (S : Oper → (Value → Prop) → Prop) : List Oper → List (Value → Prop) → Prop
  | [], [] => True
  | o :: r, p :: q => S o p ∧ AllP S r q
  | _, _ => False
theorem AllP.lift {S : Oper → (Value → Prop) → Prop} {S' : Oper → (Value → Heap → Prop) → Prop} (h : ∀ o p, S o p → S' o (fun v _ => p v)) : ∀ {l : List Oper} {V : List (Value → Prop)}, AllP S l V → AllS S' l (V.map fun q v _ => q v)
  | [], [], _ => trivial
  | _ :: _, _ :: _, ⟨h1, h2⟩ => ⟨h _ _ h1, AllP.lift h h2⟩
  | [], _ :: _, h => h.elim
  | _ :: _, [], h => h.elim
theorem wpList_exits {l : List Oper} {R R' : Act → World → Prop} (hr : ∀ a w, R a w → R' a w) : ∀ {a : Act} {w : World}, wpList P ops (Exit.then R Q) l a w → wpList P ops (Exit.then R' Q) l a w := by
  induction l with
  | nil => intro a w h; exact hr _ _ h
  | cons o r ih =>
    intro a w h
    unfold wpList at h ⊢
    split
    · rename_i hw
      rw [if_pos hw] at h
      rcases h with h | ⟨h, a', w', hq⟩
      · exact .inl (wp_exits (fun _ _ _ h => h) (fun ⟨a, w, h⟩ => ⟨a, w, h⟩) (Oper.wp_mono (fun _ _ h => ih h) h))
      · exact .inr ⟨h, a', w', hq⟩
    · rename_i hw
      rw [if_neg hw] at h
      exact ih h
/-- A region that draws its order, its operations' values told plainly. -/
theorem drawnP {id : Nat} {l : List Oper} (V : List (Value → Prop)) (hm : P.follows .mixedOrders = true) (hb : backOk l.toArray = true) (hE : Env a N D L) (hS : St w0 G0 K0 G w M) (hf : freshOk l L [] = true)
    (hstep : AllP (StepP P Q N D L w0 G0 K0 G M l.toArray V) l V)
    (hend : ∀ a w, St w0 G0 K0 G w M → Env a N D L → (∀ j d q, dstOf l.toArray j = some d → V[j]? = some q → ∃ v, a.tmps[d]? = some v ∧ q v) → Q .normal a w) :
    (Code.region id l.toArray true).wp P Q a w := by
  refine drawnV (V.map fun q v _ => q v) hm hb hE hS hf ?_ (AllP.lift ?_ hstep) ?_
  · intro p hp v A B _ h
    obtain ⟨q, _, rfl⟩ := List.mem_map.1 hp
    exact h
  · intro o p hs a w G' hl hS' hE' hv
    refine wpList_exits ?_ (hs a w G' hl hS' hE' fun j d q hj hd hq => hv j d (fun v _ => q v) hj hd (by simp [hq]))
    rintro a' w' ⟨v, d, h1, h2, h3, h4, h5⟩
    exact ⟨v, G', d, Heap.le.refl _, h1, h2, h3, h4, h5⟩
  · intro a w G' hl hS' hE' hv
    exact hend a w (hS'.weakG hS.le hl) hE' fun j d q hd hq => hv j d (fun v _ => q v) hd (by simp [hq])
end
end Go.Proofs.YtiinipcmghhacaaDoor.X
