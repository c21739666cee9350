/- Own text. -/
import Derived.Test.YtngoaapgdfohjaaGreatDoorX40
import Derived.Laws.CopyRow
import Derived.Laws.IdiomStrings
set_option linter.unusedVariables false
set_option linter.unusedSimpArgs false
namespace Go.Proofs.YtngoaapgdfohjaaGreatDoor.X
open Go
/-! ## Goals that bear the state -/
inductive Itm where
  | co (c : Code)
  | blk (id : Nat)
  | cut (J : Act → World → Prop)
  | ops (all : Array Oper) (rest : List Oper)
def aft (P : Program) (Q0 : Exit → Act → World → Prop) : List Itm → Exit → Act → World → Prop
  | [] => Q0
  | .co c :: s => Exit.then (fun a w => c.wp P (aft P Q0 s) a w) (aft P Q0 s)
  | .blk id :: s => Exit.inBlock id (aft P Q0 s)
  | .cut J :: s => Exit.then J (aft P Q0 s)
  | .ops all rest :: s => Exit.then (fun a w => wpList P all (aft P Q0 s) rest a w) (aft P Q0 s)
structure W (P : Program) (Q0 : Exit → Act → World → Prop) (N : Nat) (D : List Deferred) (w0 : World) (G0 : Heap) (K0 : List Nat) (s : List Itm) (G : Heap) (L : List (Nat × Value)) (M : List Chunk) : Prop where
  of ::
  run : ∀ a w, Env a N D L → St w0 G0 K0 G w M → aft P Q0 s .normal a w
def popTo (id : Nat) : List Itm → Option (List Itm)
  | [] => none
  | .blk i :: s => match Nat.beq id i with
    | true => some s
    | false => popTo id s
  | _ :: s => popTo id s
theorem aft_ret {P : Program} {Q0 : Exit → Act → World → Prop} {a : Act} {w : World} : ∀ {s : List Itm}, Q0 .ret a w → aft P Q0 s .ret a w
  | [], h => h
  | .co _ :: s, h => aft_ret (s := s) h
  | .blk _ :: s, h => aft_ret (s := s) h
  | .cut _ :: s, h => aft_ret (s := s) h
  | .ops _ _ :: s, h => aft_ret (s := s) h
theorem aft_panic {P : Program} {Q0 : Exit → Act → World → Prop} {a : Act} {w : World} {c : List PanicEntry} : ∀ {s : List Itm}, Q0 (.panic c) a w → aft P Q0 s (.panic c) a w
  | [], h => h
  | .co _ :: s, h => aft_panic (s := s) h
  | .blk _ :: s, h => aft_panic (s := s) h
  | .cut _ :: s, h => aft_panic (s := s) h
  | .ops _ _ :: s, h => aft_panic (s := s) h
theorem aft_exit {P : Program} {Q0 : Exit → Act → World → Prop} {a : Act} {w : World} {id : Nat} : ∀ {s s' : List Itm}, popTo id s = some s' → aft P Q0 s' .normal a w → aft P Q0 s (.exit id) a w
  | [], s', h, _ => by cases h
  | .co _ :: s, s', h, k => aft_exit (s := s) h k
  | .cut _ :: s, s', h, k => aft_exit (s := s) h k
  | .ops _ _ :: s, s', h, k => aft_exit (s := s) h k
  | .blk i :: s, s', h, k => by
    simp only [popTo] at h
    show Exit.inBlock i (aft P Q0 s) (.exit id) a w
    unfold Exit.inBlock
    cases hb : Nat.beq id i with
    | true =>
      rw [hb] at h
      cases h
      have : id = i := Nat.eq_of_beq_eq_true hb
      simp only [if_pos this]; exact k
    | false =>
      rw [hb] at h
      have : id ≠ i := Nat.ne_of_beq_eq_false hb
      simp only [if_neg this]; exact aft_exit h k
theorem wpList_mono {P : Program} {ops : Array Oper} {Q Q' : Exit → Act → World → Prop} (hq : ∀ e a w, Q e a w → Q' e a w) : ∀ {l : List Oper} {a : Act} {w : World}, wpList P ops Q l a w → wpList P ops Q' l a w
  | [], a, w, h => hq _ _ _ h
  | o :: r, a, w, h => by
    unfold wpList at h ⊢
    split
    · rename_i hw
      rw [if_pos hw] at h
      rcases h with h | ⟨h, a', w', hq'⟩
      · exact .inl (wp_exits (fun _ _ _ h => hq _ _ _ h) (fun ⟨a, w, h⟩ => ⟨a, w, hq _ _ _ h⟩) (Oper.wp_mono (fun _ _ h => wpList_mono hq h) h))
      · exact .inr ⟨h, a', w', hq _ _ _ hq'⟩
    · rename_i hw
      rw [if_neg hw] at h
      exact wpList_mono hq h
section
variable {P : Program} {Q0 : Exit → Act → World → Prop} {N : Nat} {D : List Deferred} {w0 : World} {G0 : Heap} {K0 : List Nat} {s : List Itm} {G : Heap} {L L' : List (Nat × Value)} {M M' : List Chunk}
theorem w_skip (h : W P Q0 N D w0 G0 K0 s G L M) : W P Q0 N D w0 G0 K0 (.co .skip :: s) G L M := W.of fun a w E S => wp_skip (h.run a w E S)
theorem w_seq {x y : Code} (h : W P Q0 N D w0 G0 K0 (.co x :: .co y :: s) G L M) : W P Q0 N D w0 G0 K0 (.co (.seq x y) :: s) G L M := W.of fun a w E S => wp_seq (h.run a w E S)
theorem w_block {id : Nat} {c : Code} (h : W P Q0 N D w0 G0 K0 (.co c :: .blk id :: s) G L M) : W P Q0 N D w0 G0 K0 (.co (.block id c) :: s) G L M := W.of fun a w E S => wp_block (h.run a w E S)
theorem w_blk {id : Nat} (h : W P Q0 N D w0 G0 K0 s G L M) : W P Q0 N D w0 G0 K0 (.blk id :: s) G L M := ⟨h.run⟩
theorem w_exit {id : Nat} {s' : List Itm} (hp : popTo id s = some s') (h : W P Q0 N D w0 G0 K0 s' G L M) : W P Q0 N D w0 G0 K0 (.co (.exit id) :: s) G L M := W.of fun a w E S => wp_exit (aft_exit hp (h.run a w E S))
theorem w_reg {id : Nat} {l : List Oper} (h : W P Q0 N D w0 G0 K0 (.ops l.toArray l :: s) G L M) : W P Q0 N D w0 G0 K0 (.co (.region id l.toArray false) :: s) G L M := W.of fun a w E S => wp_region_lit (h.run a w E S)
theorem w_nil {all : Array Oper} (h : W P Q0 N D w0 G0 K0 s G L M) : W P Q0 N D w0 G0 K0 (.ops all [] :: s) G L M := ⟨h.run⟩
theorem w_label {l : Nat} (h : W P Q0 N D w0 G0 K0 s G L M) : W P Q0 N D w0 G0 K0 (.co (.label l) :: s) G L M := W.of fun a w E S => wp_label (h.run a w E S)
theorem w_cond {c : Operand} {x y : Code} {b : Bool} (hc : ev L c = some (.bool b)) (ht : b = true → W P Q0 N D w0 G0 K0 (.co x :: s) G L M) (hf : b = false → W P Q0 N D w0 G0 K0 (.co y :: s) G L M) : W P Q0 N D w0 G0 K0 (.co (.cond c x y) :: s) G L M :=
  W.of fun a w E S => cond E hc (fun h => (ht h).run a w E S) (fun h => (hf h).run a w E S)
theorem w_condT {c : Operand} {x y : Code} {b : Bool} (hc : ev L c = some (.bool b)) (hb : b = true) (h : W P Q0 N D w0 G0 K0 (.co x :: s) G L M) : W P Q0 N D w0 G0 K0 (.co (.cond c x y) :: s) G L M :=
  w_cond hc (fun _ => h) (fun h2 => by rw [hb] at h2; cases h2)
theorem w_condF {c : Operand} {x y : Code} {b : Bool} (hc : ev L c = some (.bool b)) (hb : b = false) (h : W P Q0 N D w0 G0 K0 (.co y :: s) G L M) : W P Q0 N D w0 G0 K0 (.co (.cond c x y) :: s) G L M :=
  w_cond hc (fun h2 => by rw [hb] at h2; cases h2) (fun _ => h)
/-- The condition in its plain form. -/
theorem w_cd {c : Operand} {x y : Code} {b : Bool} {p q : Prop} (hc : ev L c = some (.bool b)) (ht : p → W P Q0 N D w0 G0 K0 (.co x :: s) G L M) (hf : q → W P Q0 N D w0 G0 K0 (.co y :: s) G L M)
    (e1 : (b = true) = p := by first | (simp only [zz1, zz2, zz3, zz4, zz5, zz6, zz7, zz8, zz9, zza, zzb]; first | done | exact rfl) | exact rfl)
    (e2 : (b = false) = q := by first | (simp only [zz1, zz2, zz3, zz4, zz5, zz6, zz7, zz8, zz9, zza, zzb]; first | done | exact rfl) | exact rfl) : W P Q0 N D w0 G0 K0 (.co (.cond c x y) :: s) G L M :=
  w_cond hc (fun h => ht (e1 ▸ h)) (fun h => hf (e2 ▸ h))

/-! ## The state, told otherwise -/
/-- Less is known of the slots. -/
theorem W.slots {s : List Itm} (L' : List (Nat × Value)) (hs : AllV L L' []) (h : W P Q0 N D w0 G0 K0 s G L' M) : W P Q0 N D w0 G0 K0 s G L M := W.of fun a w E S => h.run a w (E.cutV hs) S
/-- One chunk out of a list of them. -/
inductive Pk (C : Chunk) : List Chunk → List Chunk → Prop where
  | here {r : List Chunk} : Pk C (C :: r) r
  | there {X : Chunk} {r r' : List Chunk} (h : Pk C r r') : Pk C (X :: r) (X :: r')
theorem Pk.perm {C : Chunk} {M R : List Chunk} (h : Pk C M R) : List.Perm M (C :: R) := by
  induction h with
  | here => exact .refl _
  | there _ ih => exact (List.Perm.cons _ ih).trans (.swap _ _ _)
/-- `M` holds the chunks `M'`, in whatever order, and `R`. -/
inductive Sel : List Chunk → List Chunk → List Chunk → Prop where
  | nil {M : List Chunk} : Sel M [] M
  | cons {C : Chunk} {M M1 M' R : List Chunk} (h : Pk C M M1) (k : Sel M1 M' R) : Sel M (C :: M') R
theorem Sel.perm {M M' R : List Chunk} (h : Sel M M' R) : List.Perm M (M' ++ R) := by
  induction h with
  | nil => exact .refl _
  | cons h k ih => exact h.perm.trans (List.Perm.cons _ ih)
theorem flat_perm {A B : List Chunk} (h : List.Perm A B) : List.Perm A.flatten B.flatten := h.flatten
theorem St.sel {w : World} {R : List Chunk} (h : St w0 G0 K0 G w M) (hs : Sel M M' R) : St w0 G0 K0 G w (M' ++ R) := h.perm (flat_perm hs.perm).symm
theorem St.sel0 {w : World} {R : List Chunk} (h : St w0 G0 K0 G w M) (hs : Sel M M' R) : St w0 G0 K0 G w M' :=
  (h.sel hs).drop (by rw [List.flatten_append]; exact List.sublist_append_left _ _)
theorem W.mem {R : List Chunk} (hs : Sel M M' R) (h : W P Q0 N D w0 G0 K0 s G L M') : W P Q0 N D w0 G0 K0 s G L M := W.of fun a w E S => h.run a w E (S.sel0 hs)
/-- A slot's value, told otherwise. -/
theorem w_as (t : Nat) {v : Value} (v' : Value) (hv : lk L t = some v) (e : v = v') (k : W P Q0 N D w0 G0 K0 s G ((t, v') :: L) M) : W P Q0 N D w0 G0 K0 s G L M := W.of fun a w E S => k.run a w ⟨E.size, E.defers, fun t' u ht => by
  rcases lk_cons ht with ⟨rfl, rfl⟩ | ⟨_, ht⟩
  · subst e; exact E.get _ _ hv
  · exact E.get _ _ ht⟩ S
/-- An own block, told otherwise. -/
theorem w_blkAs {b : Nat} {p q : Obj → Prop} {M' : List Chunk} (hm : RepM b p q M M') (e : p = q) (k : W P Q0 N D w0 G0 K0 s G L M') : W P Q0 N D w0 G0 K0 s G L M := W.of fun a w E S => k.run a w E (S.turnP hm fun o h => e ▸ h)

/-! ## Cuts -/
def At (N : Nat) (D : List Deferred) (w0 : World) (G0 : Heap) (K0 : List Nat) (G : Heap) (L : List (Nat × Value)) (M : List Chunk) : Act → World → Prop := fun a w => Env a N D L ∧ St w0 G0 K0 G w M
theorem w_at {R : List Chunk} (hs : AllV L L' [] := by repeat (first | exact trivial | refine ⟨.inl rfl, ?_⟩ | refine ⟨.inr rfl, ?_⟩)) (hm : Sel M M' R := by repeat (first | exact Sel.nil | (apply Sel.cons; (focus (repeat (first | exact Pk.here | apply Pk.there)))))) : W P Q0 N D w0 G0 K0 (.cut (At N D w0 G0 K0 G L' M') :: s) G L M :=
  W.of fun a w E S => ⟨E.cutV hs, S.sel0 hm⟩
/-- Two ways that meet again. -/
theorem w_meet {i : Itm} (L' : List (Nat × Value)) (M' : List Chunk) (h1 : W P Q0 N D w0 G0 K0 (i :: .cut (At N D w0 G0 K0 G L' M') :: s) G L M) (h2 : W P Q0 N D w0 G0 K0 s G L' M') : W P Q0 N D w0 G0 K0 (i :: s) G L M := by
  refine W.of fun a w E S => ?_
  have h := h1.run a w E S
  have hq : ∀ e a w, aft P Q0 (.cut (At N D w0 G0 K0 G L' M') :: s) e a w → aft P Q0 s e a w := by
    intro e a w he
    cases e with
    | normal => exact h2.run a w he.1 he.2
    | _ => exact he
  cases i with
  | co c => exact wp_mono h hq
  | blk id => exact hq _ _ _ h
  | cut J => exact h
  | ops all rest => exact wpList_mono hq h
end
end Go.Proofs.YtngoaapgdfohjaaGreatDoor.X

set_option linter.unusedVariables false
set_option linter.unusedSimpArgs false
namespace Go.Proofs.YtngoaapgdfohjaaGreatDoor.X
open Go
/-! ## Heaps that have grown -/
class Le1 (A : outParam Heap) (B : Heap) : Prop where
  le : Heap.le A B
class LeT (A B : Heap) : Prop where
  le : Heap.le A B
instance LeT.refl (A : Heap) : LeT A A := ⟨Heap.le.refl A⟩
instance LeT.step (A B C : Heap) [h : Le1 B C] [k : LeT A B] : LeT A C := ⟨k.le.trans h.le⟩

/-! ## What the tables tell, in one list -/
structure Tb where
  fo : List (Nat × Nat × Nat) := []
  fl : List (Nat × Nat × Nat × Nat) := []
  sc : List Nat := []
  ag : List (Nat × Nat) := []
  st : List Nat := []
  ar : List (Nat × Nat × Nat) := []
  sl : List (Nat × Nat × Nat) := []
  ap : List (Nat × Nat × Nat × Nat) := []
def look1 : List (Nat × Nat) → Nat → Option Nat
  | [], _ => none
  | (k, v) :: r, t => match Nat.beq k t with
    | true => some v
    | false => look1 r t
def look2 : List (Nat × Nat × Nat) → Nat → Nat → Option Nat
  | [], _, _ => none
  | (k, j, v) :: r, s, t => match Nat.beq k s && Nat.beq j t with
    | true => some v
    | false => look2 r s t
def look3 : List (Nat × Nat × Nat × Nat) → Nat → Nat → Option (Nat × Nat)
  | [], _, _ => none
  | (k, j, v) :: r, s, t => match Nat.beq k s && Nat.beq j t with
    | true => some v
    | false => look3 r s t
def lookP {α : Type} : List (Nat × α) → Nat → Option α
  | [], _ => none
  | (k, v) :: r, t => match Nat.beq k t with
    | true => some v
    | false => lookP r t
theorem look1_mem : ∀ {l : List (Nat × Nat)} {t v : Nat}, look1 l t = some v → (t, v) ∈ l
  | [], _, _, h => by cases h
  | (k, u) :: r, t, v, h => by
    simp only [look1] at h
    split at h
    · rename_i hb; cases h; have := Nat.eq_of_beq_eq_true hb; subst this; exact List.mem_cons_self
    · exact List.mem_cons_of_mem _ (look1_mem h)
theorem lookP_mem {α : Type} : ∀ {l : List (Nat × α)} {t : Nat} {v : α}, lookP l t = some v → (t, v) ∈ l
  | [], _, _, h => by cases h
  | (k, u) :: r, t, v, h => by
    simp only [lookP] at h
    split at h
    · rename_i hb; cases h; have := Nat.eq_of_beq_eq_true hb; subst this; exact List.mem_cons_self
    · exact List.mem_cons_of_mem _ (lookP_mem h)
theorem look2_mem : ∀ {l : List (Nat × Nat × Nat)} {s t v : Nat}, look2 l s t = some v → (s, t, v) ∈ l
  | [], _, _, _, h => by cases h
  | (k, j, u) :: r, s, t, v, h => by
    simp only [look2] at h
    split at h
    · rename_i hb
      rw [Bool.and_eq_true] at hb
      cases h
      have h1 := Nat.eq_of_beq_eq_true hb.1; have h2 := Nat.eq_of_beq_eq_true hb.2; subst h1; subst h2; exact List.mem_cons_self
    · exact List.mem_cons_of_mem _ (look2_mem h)
theorem look3_mem : ∀ {l : List (Nat × Nat × Nat × Nat)} {s t : Nat} {v : Nat × Nat}, look3 l s t = some v → (s, t, v) ∈ l
  | [], _, _, _, h => by cases h
  | (k, j, u) :: r, s, t, v, h => by
    simp only [look3] at h
    split at h
    · rename_i hb
      rw [Bool.and_eq_true] at hb
      cases h
      have h1 := Nat.eq_of_beq_eq_true hb.1; have h2 := Nat.eq_of_beq_eq_true hb.2; subst h1; subst h2; exact List.mem_cons_self
    · exact List.mem_cons_of_mem _ (look3_mem h)
def isStr (P : Program) (t : Nat) : Bool := match P.underlying t with
  | some .string => true
  | _ => false
theorem isStr_spec {P : Program} {t : Nat} (h : isStr P t = true) : P.underlying t = some .string := by
  unfold isStr at h
  split at h
  · assumption
  · cases h
def Tb.ok (P : Program) (tb : Tb) : Bool :=
  tb.fo.all (fun x => decide (fieldOff P x.1 x.2.1 = some x.2.2)) && (tb.fl.all (fun x => decide (fldOf P x.1 x.2.1 = some x.2.2)) && (tb.sc.all (scal P) && (tb.ag.all (fun x => decide (aggSz P x.1 = some x.2)) &&
    (tb.st.all (isStr P) && (tb.ar.all (fun x => decide (arrOf P x.1 = some x.2)) && (tb.sl.all (fun x => decide (slOf P x.1 = some x.2)) && tb.ap.all (fun x => decide (apOf P x.1 = some x.2))))))))
class HasTb (P : Program) (tb : outParam Tb) : Prop where
  ok : tb.ok P = true
section
variable {P : Program} {tb : Tb}
theorem HasTb.all (h : HasTb P tb) : (∀ x ∈ tb.fo, fieldOff P x.1 x.2.1 = some x.2.2) ∧ (∀ x ∈ tb.fl, fldOf P x.1 x.2.1 = some x.2.2) ∧ (∀ t ∈ tb.sc, scal P t = true) ∧ (∀ x ∈ tb.ag, aggSz P x.1 = some x.2) ∧
    (∀ t ∈ tb.st, P.underlying t = some .string) ∧ (∀ x ∈ tb.ar, arrOf P x.1 = some x.2) ∧ (∀ x ∈ tb.sl, slOf P x.1 = some x.2) ∧ (∀ x ∈ tb.ap, apOf P x.1 = some x.2) := by
  have h := h.ok
  unfold Tb.ok at h
  simp only [Bool.and_eq_true, List.all_eq_true, decide_eq_true_eq] at h
  obtain ⟨h1, h2, h3, h4, h5, h6, h7, h8⟩ := h
  exact ⟨h1, h2, h3, h4, fun t ht => isStr_spec (h5 t ht), h6, h7, h8⟩
theorem tb_fo (h : HasTb P tb) {s f j : Nat} (e : look2 tb.fo s f = some j) : fieldOff P s f = some j := h.all.1 _ (look2_mem e)
theorem tb_fl (h : HasTb P tb) {s f : Nat} {j : Nat × Nat} (e : look3 tb.fl s f = some j) : fldOf P s f = some j := h.all.2.1 _ (look3_mem e)
theorem tb_sc (h : HasTb P tb) {t : Nat} (e : tb.sc.elem t = true) : scal P t = true := h.all.2.2.1 _ (List.mem_of_elem_eq_true e)
theorem tb_ag (h : HasTb P tb) {t n : Nat} (e : look1 tb.ag t = some n) : aggSz P t = some n := h.all.2.2.2.1 _ (look1_mem e)
theorem tb_st (h : HasTb P tb) {t : Nat} (e : tb.st.elem t = true) : P.underlying t = some .string := h.all.2.2.2.2.1 _ (List.mem_of_elem_eq_true e)
theorem tb_ar (h : HasTb P tb) {t : Nat} {x : Nat × Nat} (e : lookP tb.ar t = some x) : arrOf P t = some x := h.all.2.2.2.2.2.1 _ (lookP_mem e)
theorem tb_sl (h : HasTb P tb) {t : Nat} {x : Nat × Nat} (e : lookP tb.sl t = some x) : slOf P t = some x := h.all.2.2.2.2.2.2.1 _ (lookP_mem e)
theorem tb_ap (h : HasTb P tb) {t : Nat} {x : Nat × Nat × Nat} (e : lookP tb.ap t = some x) : apOf P t = some x := h.all.2.2.2.2.2.2.2 _ (lookP_mem e)
end

/-! ## Values that need no memory -/
def pbin (q : BinOp) : Value → Value → Option Value
  | .int k i, .int k' j => if k = k' then
      match q with
      | .lss => some (.bool (decide (i < j)))
      | .leq => some (.bool (decide (i ≤ j)))
      | .gtr => some (.bool (decide (j < i)))
      | .geq => some (.bool (decide (j ≤ i)))
      | .eql => some (.bool (decide (i = j)))
      | .neq => some (.bool (!decide (i = j)))
      | .and => some (.int k (bAnd k i j))
      | .or => some (.int k (bOr k i j))
      | .xor => some (.int k (bXor k i j))
      | _ => none
    else none
  | _, _ => none
def pop (tb : Tb) (L : List (Nat × Value)) : Op → Option Value
  | .move x => ev L x
  | .assign x => ev L x
  | .unOp .not _ x => match ev L x with
    | some (.bool b) => some (.bool (!b))
    | _ => none
  | .binOp q _ x y _ => match ev L x, ev L y with
    | some u, some v => pbin q u v
    | _, _ => none
  | .extract x i => match ev L x with
    | some (.tuple vs) => vs.toList[i]?
    | _ => none
  | .fieldAddr s x f => match ev L x with
    | some (.pointer (some ⟨b, o, none⟩)) => match look2 tb.fo s f with
      | some j => some (.pointer (some ⟨b, o + j, none⟩))
      | none => none
    | _ => none
  | .field s x f => match ev L x with
    | some (.agg cs) => match look3 tb.fl s f with
      | some (j, t) => match tb.sc.elem t with
        | true => match lks (enum 0 cs.toList) j 1 with
          | some [v] => some v
          | _ => none
        | false => match look1 tb.ag t with
          | some n => match lks (enum 0 cs.toList) j n with
            | some vs => some (.agg vs.toArray)
            | none => none
          | none => none
      | none => none
    | _ => none
  | .nilCheck x => match ev L x with
    | some (.pointer (some a)) => some (.pointer (some a))
    | _ => none
  | .makeFunc fn first cap => match evs L first.toList, evs L cap.toList with
    | some us, some vs => some (.func fn us.toArray vs.toArray)
    | _, _ => none
  | .call ⟨.builtin .len, xs, ts⟩ => match xs.toList, ts.toList with
    | [x], [t] => match ev L x with
      | some (.slice _ n _) => match lookP tb.sl t with
        | some _ => some (.int .i64 (n : Int))
        | _ => none
      | _ => none
    | _, _ => none
  | _ => none

section
variable {P : Program} {N : Nat} {D : List Deferred} {w0 : World} {G0 : Heap} {K0 : List Nat} {ops : Array Oper} {G : Heap} {L : List (Nat × Value)} {M : List Chunk} {o : Oper} {d : Nat} {v : Value}
/-- One operation that hands back `v` into the slot `d`, whatever the heap has grown to. -/
structure Stp (P : Program) (N : Nat) (D : List Deferred) (w0 : World) (G0 : Heap) (K0 : List Nat) (ops : Array Oper) (G : Heap) (L : List (Nat × Value)) (M : List Chunk) (o : Oper) (d : Nat) (v : Value) : Prop where
  dst : o.dst = some d
  run : ∀ (Q : Exit → Act → World → Prop) (rest : List Oper) (a : Act) (w : World) (G1 : Heap), Heap.le G G1 → Env a N D L → St w0 G0 K0 G1 w M →
    (∀ a' w' G2, Heap.le G1 G2 → Env a' N D ((d, v) :: L) → St w0 G0 K0 G2 w' M → wpList P ops Q rest a' w') → wpList P ops Q (o :: rest) a w
theorem Stp.pure {op : Op} {ty : TypeId} {pos : String} {af : Array Edge} (h : ∀ (Q : Exit → Act → World → Prop) (rest : List Oper) (a : Act) (w : World) (G1 : Heap), Heap.le G G1 → Env a N D L → St w0 G0 K0 G1 w M →
    (∀ a', Env a' N D ((d, v) :: L) → wpList P ops Q rest a' w) → wpList P ops Q (⟨some d, op, ty, pos, af, none⟩ :: rest) a w) : Stp P N D w0 G0 K0 ops G L M ⟨some d, op, ty, pos, af, none⟩ d v :=
  ⟨rfl, fun Q rest a w G1 hl E S k => h Q rest a w G1 hl E S fun a' E' => k a' w G1 (Heap.le.refl _) E' S⟩
theorem p_pop {tb : Tb} [ht : HasTb P tb] {op : Op} {ty : TypeId} {pos : String} {af : Array Edge} (hN : Nat.blt d N = true) (h : pop tb L op = some v) : Stp P N D w0 G0 K0 ops G L M ⟨some d, op, ty, pos, af, none⟩ d v := by
  refine Stp.pure fun Q rest a w G1 hl E S k => ?_
  cases op <;> simp only [pop] at h <;> try (cases h; done)
  case move x => exact o_move E hN h k
  case assign x => exact o_assign E hN h k
  case unOp q t x =>
    cases q <;> simp only [pop] at h <;> try (cases h; done)
    split at h
    · rename_i hc; cases h; exact o_not E hN hc k
    · cases h
  case binOp q t x y t' =>
    split at h
    · rename_i u u' hu hu'
      unfold pbin at h
      split at h
      · rename_i q1 i q2 j
        split at h
        · rename_i he
          subst he
          cases q <;> simp only [Option.some.injEq] at h <;> first | (subst h; first | exact o_lss E hN hu hu' k | exact o_leq E hN hu hu' k | exact o_gtr E hN hu hu' k | exact o_geq E hN hu hu' k | exact o_eqI E hN hu hu' k | exact o_neI E hN hu hu' k | exact o_andB E hN hu hu' k | exact o_orB E hN hu hu' k | exact o_xorB E hN hu hu' k) | cases h
        · cases h
      · cases h
    · cases h
  case extract x i =>
    split at h
    · rename_i vs hc; exact o_extract E hN hc h k
    · cases h
  case fieldAddr s x f =>
    split at h
    · rename_i b off hc
      split at h
      · rename_i j hj; cases h; exact o_fld E hN hc (tb_fo ht hj) k
      · cases h
    · cases h
  case field s x f =>
    split at h
    · rename_i cs hc
      split at h
      · rename_i j t hj
        split at h
        · rename_i hs
          split at h
          · rename_i u hu; cases h; exact o_field E hN hc (tb_fl ht hj) hu (.inl ⟨tb_sc ht hs, rfl⟩) k
          · cases h
        · split at h
          · rename_i n hn
            split at h
            · rename_i vs hv; cases h; exact o_field E hN hc (tb_fl ht hj) hv (.inr ⟨tb_ag ht hn, rfl⟩) k
            · cases h
          · cases h
      · cases h
    · cases h
  case nilCheck x =>
    split at h
    · rename_i ad hc; cases h; exact o_nil E hN hc k
    · cases h
  case makeFunc fn first cap =>
    split at h
    · rename_i us vs h1 h2; cases h; exact o_func E hN h1 h2 k
    · cases h
  case call c =>
    obtain ⟨cal, xs, ts⟩ := c
    cases cal with
    | builtin b =>
      cases b <;> simp only [pop] at h <;> try (cases h; done)
      split at h
      · rename_i x t hx ht'
        split at h
        · rename_i A n c hv
          split at h
          · rename_i e hu
            cases h
            have e1 : xs = #[x] := Array.toList_inj.1 (by simpa using hx)
            have e2 : ts = #[t] := Array.toList_inj.1 (by simpa using ht')
            subst e1; subst e2
            obtain ⟨inf, hu2, _, _⟩ := sl_spec (tb_sl ht hu); exact o_lenL E hN hv hu2 k
          · cases h
        · cases h
      · cases h
    | _ => simp only [pop] at h; cases h
end
end Go.Proofs.YtngoaapgdfohjaaGreatDoor.X

set_option linter.unusedVariables false
set_option linter.unusedSimpArgs false
namespace Go.Proofs.YtngoaapgdfohjaaGreatDoor.X
open Go
/-! ## A region that draws its order, walked in the order of the text -/
def tmpsOf (ops : Array Oper) (o : Oper) : List Nat :=
  (o.op.operands.toList.filterMap fun x => match x with
    | .tmp t => some t
    | _ => none) ++ (match o.guard with
    | some (j, _) => match dstOf ops j with
      | some t => [t]
      | none => []
    | none => [])
def resE (L : List (Nat × Value)) : List Nat → List (Nat × Value)
  | [] => []
  | t :: r => match lk L t with
    | some v => (t, v) :: resE L r
    | none => resE L r
theorem resE_get {L : List (Nat × Value)} : ∀ {ts : List Nat} {t : Nat} {v : Value}, lk (resE L ts) t = some v → t ∈ ts ∧ lk L t = some v
  | [], t, v, h => by cases h
  | k :: r, t, v, h => by
    simp only [resE] at h
    split at h
    · rename_i u hu
      rcases lk_cons h with ⟨rfl, rfl⟩ | ⟨_, h⟩
      · exact ⟨List.mem_cons_self, hu⟩
      · exact ⟨List.mem_cons_of_mem _ (resE_get h).1, (resE_get h).2⟩
    · exact ⟨List.mem_cons_of_mem _ (resE_get h).1, (resE_get h).2⟩
def readsOk (h l : List Oper) : Bool := h.all fun o => (tmpsOf l.toArray o).all fun t => (List.range h.length).all fun j => !(dstOf l.toArray j == some t) || (ons o).elem j
theorem readsOk_spec {h' l : List Oper} (h : readsOk h' l = true) {o : Oper} (ho : o ∈ h') {t j : Nat} (ht : t ∈ tmpsOf l.toArray o) (hn : j < h'.length) (hj : dstOf l.toArray j = some t) : (ons o).elem j = true := by
  have h1 := List.all_eq_true.1 (List.all_eq_true.1 (List.all_eq_true.1 h o ho) t ht) j (List.mem_range.2 hn)
  simpa [hj] using h1
def dOk (l : List Oper) : Bool := backOk l.toArray && readsOk l l

section
variable {P : Program} {Q0 : Exit → Act → World → Prop} {N : Nat} {D : List Deferred} {w0 : World} {G0 : Heap} {K0 : List Nat} {s : List Itm} {G : Heap} {L L' : List (Nat × Value)} {M M' : List Chunk} {ops : Array Oper} {o : Oper} {d : Nat} {v : Value} {rest : List Oper}
theorem w_stp {all : Array Oper} (h : Stp P N D w0 G0 K0 all G L M o d v) (k : W P Q0 N D w0 G0 K0 (.ops all rest :: s) G ((d, v) :: L) M) : W P Q0 N D w0 G0 K0 (.ops all (o :: rest) :: s) G L M :=
  W.of fun a w E S => h.run _ rest a w G (Heap.le.refl _) E S fun a' w' G2 hl E' S' => k.run a' w' E' (S'.weakG S.le hl)
/-- A guarded operation that is wanted. -/
theorem p_on {dd : Option Nat} {op : Op} {ty : TypeId} {pos : String} {af : Array Edge} {j : Nat} {want b : Bool} {dj : Nat} (hj : (ops[j]?).bind (·.dst) = some dj) (hb : lk L dj = some (.bool b)) (he : b = want)
    (h : Stp P N D w0 G0 K0 ops G L M ⟨dd, op, ty, pos, af, none⟩ d v) : Stp P N D w0 G0 K0 ops G L M ⟨dd, op, ty, pos, af, some (j, want)⟩ d v :=
  ⟨h.dst, fun Q rest a w G1 hl E S k => op_on E hj hb he (h.run Q rest a w G1 hl E S k)⟩
theorem p_off {op : Op} {ty : TypeId} {pos : String} {af : Array Edge} {j : Nat} {want b : Bool} {dj : Nat} (hN : Nat.blt d N = true) (hj : (ops[j]?).bind (·.dst) = some dj) (hb : lk L dj = some (.bool b)) (hne : b = !want) :
    Stp P N D w0 G0 K0 ops G L M ⟨some d, op, ty, pos, af, some (j, want)⟩ d undef :=
  ⟨rfl, fun Q rest a w G1 hl E S k => g_off E hN hj hb hne fun a' E' => k a' w G1 (Heap.le.refl _) E' S⟩
theorem p_offT {op : Op} {ty : TypeId} {pos : String} {af : Array Edge} {j : Nat} {b : Bool} {dj : Nat} (hN : Nat.blt d N = true) (hj : (ops[j]?).bind (·.dst) = some dj) (hb : lk L dj = some (.bool b)) (hne : b = false) : Stp P N D w0 G0 K0 ops G L M ⟨some d, op, ty, pos, af, some (j, true)⟩ d undef := p_off hN hj hb hne
theorem p_offF {op : Op} {ty : TypeId} {pos : String} {af : Array Edge} {j : Nat} {b : Bool} {dj : Nat} (hN : Nat.blt d N = true) (hj : (ops[j]?).bind (·.dst) = some dj) (hb : lk L dj = some (.bool b)) (hne : b = true) : Stp P N D w0 G0 K0 ops G L M ⟨some d, op, ty, pos, af, some (j, false)⟩ d undef := p_off hN hj hb hne
theorem p_offu {op : Op} {ty : TypeId} {pos : String} {af : Array Edge} {j : Nat} {want : Bool} {dj : Nat} (hN : Nat.blt d N = true) (hj : (ops[j]?).bind (·.dst) = some dj) (hb : lk L dj = some undef) :
    Stp P N D w0 G0 K0 ops G L M ⟨some d, op, ty, pos, af, some (j, want)⟩ d undef :=
  ⟨rfl, fun Q rest a w G1 hl E S k => g_offu E hN hj hb fun a' E' => k a' w G1 (Heap.le.refl _) E' S⟩
/-- The walk of a region that draws: each operation by itself. -/
inductive DR (P : Program) (N : Nat) (D : List Deferred) (w0 : World) (G0 : Heap) (K0 : List Nat) (ops : Array Oper) (G : Heap) (M : List Chunk) (Kp : List (Nat × Value) → Prop) : List Oper → List (Nat × Value) → Prop where
  | nil {L : List (Nat × Value)} (h : Kp L) : DR P N D w0 G0 K0 ops G M Kp [] L
  | cons {o : Oper} {rest : List Oper} {L : List (Nat × Value)} {d : Nat} {v : Value} (h : Stp P N D w0 G0 K0 ops G (resE L (tmpsOf ops o)) M o d v) (k : DR P N D w0 G0 K0 ops G M Kp rest ((d, v) :: L)) : DR P N D w0 G0 K0 ops G M Kp (o :: rest) L
theorem DR.split {Kp : List (Nat × Value) → Prop} {l : List Oper} (t : Nat) {b : Bool} (hb : lk L t = some (.bool b)) (h1 : b = true → DR P N D w0 G0 K0 ops G M Kp l L) (h2 : b = false → DR P N D w0 G0 K0 ops G M Kp l L) : DR P N D w0 G0 K0 ops G M Kp l L := by
  cases b with
  | true => exact h1 rfl
  | false => exact h2 rfl
theorem DR.told (Q : Exit → Act → World → Prop) {l : List Oper} {Kp : List (Nat × Value) → Prop} {L0 : List (Nat × Value)} {h' : List Oper} (hr : readsOk h' l = true) (tl : List Oper) :
    ∀ (rest pre : List Oper) (vsp : List Value) (Lk : List (Nat × Value)), l = pre ++ (rest ++ tl) → ((∀ o ∈ rest, o ∈ h') ∧ pre.length + rest.length ≤ h'.length) → vsp.length = pre.length →
      (∀ t u, lk Lk t = some u → (∃ j, j < pre.length ∧ dstOf l.toArray j = some t ∧ vsp[j]? = some u) ∨ lk L0 t = some u) →
      DR P N D w0 G0 K0 l.toArray G M Kp rest Lk →
      ∃ (vsr : List Value) (L' : List (Nat × Value)), vsr.length = rest.length ∧ Kp L' ∧
        (∀ t u, lk L' t = some u → (∃ j, dstOf l.toArray j = some t ∧ (vsp ++ vsr)[j]? = some u) ∨ lk L0 t = some u) ∧
        ∀ (i : Nat) (o : Oper), rest[i]? = some o → ∃ v, vsr[i]? = some v ∧ ∀ (a : Act) (w : World) (G' : Heap), Heap.le G G' → St w0 G0 K0 G' w M → Env a N D L0 →
          (∀ j dj vj, (ons o).elem j = true → dstOf l.toArray j = some dj → (vsp ++ vsr)[j]? = some vj → a.tmps[dj]? = some vj) →
          wpList P l.toArray (Exit.then (fun a' w' => ∃ G2 d, Heap.le G' G2 ∧ St w0 G0 K0 G2 w' M ∧ o.dst = some d ∧ a'.tmps[d]? = some v ∧ a'.defers = D) Q) [o] a w
  | [], pre, vsp, Lk, hl, hh, hv, hi, h => by
    cases h with
    | nil h => exact ⟨[], Lk, rfl, h, fun t u ht => (hi t u ht).imp (fun ⟨j, _, h1, h2⟩ => ⟨j, h1, by simpa using h2⟩) id, fun i o ho => by simp at ho⟩
  | o :: rest, pre, vsp, Lk, hl, hh, hv, hi, h => by
    cases h with
    | @cons _ _ _ d v h k =>
      have hd := h.dst
      have hk : l[pre.length]? = some o := by rw [hl]; simp
      have hdk : dstOf l.toArray pre.length = some d := by unfold dstOf; simp [hk, hd]
      obtain ⟨vsr, L', e1, e2, e3, e4⟩ := DR.told Q hr tl rest (pre ++ [o]) (vsp ++ [v]) ((d, v) :: Lk) (by rw [hl]; simp) ⟨fun o ho => hh.1 o (List.mem_cons_of_mem _ ho), by have := hh.2; simp at this ⊢; omega⟩ (by simp [hv]) (by
        intro t u ht
        rcases lk_cons ht with ⟨rfl, rfl⟩ | ⟨_, ht⟩
        · exact .inl ⟨pre.length, by simp, hdk, by simp [← hv]⟩
        · refine (hi t u ht).imp (fun ⟨j, h0, h1, h2⟩ => ⟨j, by simp; omega, h1, ?_⟩) id
          rw [List.getElem?_append_left (by omega)]; exact h2) k
      refine ⟨v :: vsr, L', by simp [e1], e2, fun t u ht => by simpa using e3 t u ht, fun i o' ho' => ?_⟩
      cases i with
      | succ i =>
        obtain ⟨v', g1, g2⟩ := e4 i o' (by simpa using ho')
        exact ⟨v', by simpa using g1, by simpa using g2⟩
      | zero =>
        simp only [List.getElem?_cons_zero, Option.some.injEq] at ho'
        subst ho'
        refine ⟨v, rfl, fun a w G' hle S E hw => ?_⟩
        refine h.run _ [] a w G' hle ⟨E.size, E.defers, fun t u ht => ?_⟩ S (fun a' w' G2 h2 E2 S2 => ?_)
        · obtain ⟨m1, m2⟩ := resE_get ht
          rcases hi t u m2 with ⟨j, h0, h1, h2⟩ | h1
          · exact hw j t u (readsOk_spec hr (hh.1 _ List.mem_cons_self) m1 (by have := hh.2; omega) h1) h1 (by rw [List.getElem?_append_left (by omega)]; exact h2)
          · exact E.get t u h1
        · exact ⟨G2, d, h2, S2, hd, E2.get d v (by simp [lk]), E2.defers⟩
theorem w_dr {id : Nat} {l : List Oper} (hm : P.follows .mixedOrders = true) (hb : dOk l = true) (hf : freshOk l L [] = true)
    (h : DR P N D w0 G0 K0 l.toArray G M (fun L' => W P Q0 N D w0 G0 K0 s G L' M) l L) : W P Q0 N D w0 G0 K0 (.co (.region id l.toArray true) :: s) G L M := by
  refine W.of fun a w E S => ?_
  unfold dOk at hb
  rw [Bool.and_eq_true] at hb
  obtain ⟨vs, L', e1, e2, e3, e4⟩ := DR.told (aft P Q0 s) hb.2 [] l [] [] L (by simp) ⟨fun _ h => h, by simp⟩ rfl (fun t u h => .inr h) h
  simp only [List.nil_append] at e3 e4
  refine drawnV (vs.map fun u v _ => v = u) hm hb.1 E S hf (fun p hp v A B _ h => ?_) ?_ ?_
  · obtain ⟨q, _, rfl⟩ := List.mem_map.1 hp; exact h
  · have key : ∀ (r : List Oper) (us : List Value), us.length = r.length → (∀ (i : Nat) (o : Oper), r[i]? = some o → ∃ v, us[i]? = some v ∧ ∀ (a : Act) (w : World) (G' : Heap), Heap.le G G' → St w0 G0 K0 G' w M → Env a N D L →
          (∀ j dj vj, (ons o).elem j = true → dstOf l.toArray j = some dj → vs[j]? = some vj → a.tmps[dj]? = some vj) →
          wpList P l.toArray (Exit.then (fun a' w' => ∃ G2 d, Heap.le G' G2 ∧ St w0 G0 K0 G2 w' M ∧ o.dst = some d ∧ a'.tmps[d]? = some v ∧ a'.defers = D) (aft P Q0 s)) [o] a w) →
        AllS (StepOk P (aft P Q0 s) N D L w0 G0 K0 G M l.toArray (vs.map fun u v _ => v = u)) r (us.map fun u v _ => v = u) := by
      intro r
      induction r with
      | nil => intro us hu _; cases us with
        | nil => trivial
        | cons _ _ => simp at hu
      | cons o r ih =>
        intro us hu hx
        cases us with
        | nil => simp at hu
        | cons u us =>
          obtain ⟨v, g1, g2⟩ := hx 0 o rfl
          simp only [List.getElem?_cons_zero, Option.some.injEq] at g1
          subst g1
          refine ⟨fun a w G' hle S' E' hv => ?_, ih us (by simpa using hu) (fun i o' ho' => by simpa using hx (i + 1) o' (by simpa using ho'))⟩
          refine wpList_mono (fun e a' w' he => ?_) (g2 a w G' hle S' E' (fun j dj vj hj hdj hvj => ?_))
          · cases e with
            | normal => obtain ⟨G2, d, h1, h2, h3, h4, h5⟩ := he; exact ⟨u, G2, d, h1, h2, h3, h4, h5, rfl⟩
            | _ => exact he
          · obtain ⟨x, hx1, hx2⟩ := hv j dj (fun v _ => v = vj) hj hdj (by simp [hvj])
            rw [hx1, hx2]
    exact key l vs e1 e4
  · intro a w G' hle S' E' hv
    refine e2.run a w ⟨E'.size, E'.defers, fun t u ht => ?_⟩ (S'.weakG S.le hle)
    rcases e3 t u ht with ⟨j, h1, h2⟩ | h1
    · obtain ⟨x, hx1, hx2⟩ := hv j t (fun v _ => v = u) h1 (by simp [h2])
      rw [hx1, hx2]
    · exact E'.get t u h1

/-- The first `n` operations by themselves, what is behind them in the text's order. -/
theorem w_drt {id : Nat} {l : List Oper} (n : Nat) (hm : P.follows .mixedOrders = true) (hb : (backOk l.toArray && (readsOk (l.take n) l && seqB l n)) = true) (hf : freshF (l.take n) L [] = true)
    (h : DR P N D w0 G0 K0 l.toArray G M (fun L' => W P Q0 N D w0 G0 K0 (.ops l.toArray (l.drop n) :: s) G L' M) (l.take n) L) : W P Q0 N D w0 G0 K0 (.co (.region id l.toArray true) :: s) G L M := by
  refine W.of fun a w E S => ?_
  rw [Bool.and_eq_true, Bool.and_eq_true] at hb
  obtain ⟨vs, L', e1, e2, e3, e4⟩ := DR.told (aft P Q0 s) hb.2.1 (l.drop n) (l.take n) [] [] L (by simp) ⟨fun _ h => h, by simp⟩ rfl (fun t u h => .inr h) h
  simp only [List.nil_append] at e3 e4
  refine drawnSeq n (fun _ G' w => Heap.le G G' ∧ St w0 G0 K0 G' w M) (vs.map fun u v _ => v = u) hm hb.1 hb.2.2 E ⟨Heap.le.refl _, S.drew⟩ hf (fun p hp v A B _ h => ?_) ?_ ?_
  · obtain ⟨q, _, rfl⟩ := List.mem_map.1 hp; exact h
  · have key : ∀ (r : List Oper) (us : List Value) (k : Nat), us.length = r.length → (∀ (i : Nat) (o : Oper), r[i]? = some o → ∃ v, us[i]? = some v ∧ ∀ (a : Act) (w : World) (G' : Heap), Heap.le G G' → St w0 G0 K0 G' w M → Env a N D L →
          (∀ j dj vj, (ons o).elem j = true → dstOf l.toArray j = some dj → vs[j]? = some vj → a.tmps[dj]? = some vj) →
          wpList P l.toArray (Exit.then (fun a' w' => ∃ G2 d, Heap.le G' G2 ∧ St w0 G0 K0 G2 w' M ∧ o.dst = some d ∧ a'.tmps[d]? = some v ∧ a'.defers = D) (aft P Q0 s)) [o] a w) →
        AllF (StepF P (aft P Q0 s) N D L (fun _ G' w => Heap.le G G' ∧ St w0 G0 K0 G' w M) l (vs.map fun u v _ => v = u) []) k r (us.map fun u v _ => v = u) := by
      intro r
      induction r with
      | nil => intro us k hu _; cases us with
        | nil => trivial
        | cons _ _ => simp at hu
      | cons o r ih =>
        intro us k hu hx
        cases us with
        | nil => simp at hu
        | cons u us =>
          obtain ⟨v, g1, g2⟩ := hx 0 o rfl
          simp only [List.getElem?_cons_zero, Option.some.injEq] at g1
          subst g1
          refine ⟨fun a w G' f hc hfi hon hW E' hv hO => ?_, ih us (k + 1) (by simpa using hu) (fun i o' ho' => by simpa using hx (i + 1) o' (by simpa using ho'))⟩
          refine wpList_mono (fun e a' w' he => ?_) (g2 a w G' hW.1 hW.2 E' (fun j dj vj hj hdj hvj => ?_))
          · cases e with
            | normal =>
              obtain ⟨G2, d, h1, h2, h3, h4, h5⟩ := he
              exact ⟨u, G2, h1, ⟨hW.1.trans h1, h2⟩, fun d' hd' => by rw [h3] at hd'; cases hd'; exact h4, h5, rfl⟩
            | _ => exact he
          · obtain ⟨x, hx1, hx2⟩ := hv j dj (fun v _ => v = vj) (hon j hj) hdj (by simp [hvj])
            rw [hx1, hx2]
    exact key (l.take n) vs 0 e1 e4
  · intro a w G' f hle hall hW E' hv
    refine e2.run a w ⟨E'.size, E'.defers, fun t u ht => ?_⟩ (hW.2.weakG S.le hle)
    rcases e3 t u ht with ⟨j, h1, h2⟩ | h1
    · obtain ⟨x, hx1, hx2⟩ := hv j t (fun v _ => v = u) h1 (by simp [h2])
      rw [hx1, hx2]
    · exact E'.get t u h1

/-! ## Conditions that meet again -/
/-- Before a region: the slot `d` holds a Bool behind it, whichever way it goes. -/
def KB (d : Nat) (b : Bool) : List (Nat × Value) → Prop := fun L' => lk L' d = some (.bool b)
end
end Go.Proofs.YtngoaapgdfohjaaGreatDoor.X

set_option linter.unusedVariables false
set_option linter.unusedSimpArgs false
namespace Go.Proofs.YtngoaapgdfohjaaGreatDoor.X
open Go
/-! ## Contracts -/
/-- The call hands back the plain value `r`. -/
def FnP (P : Program) (f : Nat) (args : List Value) (G : Heap) (r : Value) : Prop := ∀ w, Sub G w → Calls P f args.toArray w (Ret w G (fun v _ => v = r))
def FnR (P : Program) (f : Nat) (args : List Value) (G : Heap) (R : Value → Heap → Prop) : Prop := ∀ w, Sub G w → Calls P f args.toArray w (Ret w G R)
def FnM (P : Program) (f : Nat) (args : List Value) (G : Heap) (Ms : List Chunk) (R : Value → Heap → List Chunk → Prop) : Prop :=
  ∀ {W0 : World} {H0 : Heap} {L0 : List Nat} {M0 : List Chunk} (w : World), St W0 H0 L0 G w (Ms ++ M0) → Calls P f args.toArray w (Ends w G (keys Ms.flatten) (fun v G' C' => ∃ Ms', C' = Ms'.flatten ∧ R v G' Ms') (fun _ _ _ => False))
section
variable {P : Program} {Q0 : Exit → Act → World → Prop} {N : Nat} {D : List Deferred} {w0 : World} {G0 : Heap} {K0 : List Nat} {s : List Itm} {G : Heap} {L L' : List (Nat × Value)} {M M' : List Chunk} {ops all : Array Oper} {o : Oper} {d : Nat} {v : Value} {rest : List Oper}
variable {ty : TypeId} {pos : String} {af : Array Edge}

theorem fn_in {f : Nat} {fn : Func} {c : Code} {args : List Value} {R : Value → Heap → Prop} (hf : P.funcs[f]? = some fn) (hb : fn.body = some c) (hn : fn.ntmps = N) (hN : Nat.ble args.length N = true)
    (h : ∀ w0 Q0, (∀ e a w, bodyPost P fn (Ret w0 G R) e a w → Q0 e a w) → W P Q0 N [] w0 G [] [.co c] G (argEnv 0 args) []) : FnR P f args G R := fun w hs =>
  enter hf hb hn (by simpa using hN) fun Q hQ a E => (h w Q hQ).run a w (by simpa using E) (St.start0 hs)
theorem fnP_in {f : Nat} {fn : Func} {c : Code} {args : List Value} {r : Value} (hf : P.funcs[f]? = some fn) (hb : fn.body = some c) (hn : fn.ntmps = N) (hN : Nat.ble args.length N = true)
    (h : ∀ w0 Q0, (∀ e a w, bodyPost P fn (Ret w0 G (fun v _ => v = r)) e a w → Q0 e a w) → W P Q0 N [] w0 G [] [.co c] G (argEnv 0 args) []) : FnP P f args G r := fn_in hf hb hn hN h
theorem fnM_in {f : Nat} {fn : Func} {c : Code} {args : List Value} {Ms : List Chunk} {R : Value → Heap → List Chunk → Prop} (hf : P.funcs[f]? = some fn) (hb : fn.body = some c) (hn : fn.ntmps = N) (hN : Nat.ble args.length N = true)
    (h : ∀ w0 K0 Q0, (∀ e a w, bodyPost P fn (Ends w0 G K0 (fun v G' C' => ∃ Ms', C' = Ms'.flatten ∧ R v G' Ms') (fun _ _ _ => False)) e a w → Q0 e a w) → W P Q0 N [] w0 G K0 [.co c] G (argEnv 0 args) Ms) : FnM P f args G Ms R := fun w hs =>
  enter hf hb hn (by simpa using hN) fun Q hQ a E => (h w _ Q hQ).run a w (by simpa using E) (St.startM hs)
inductive ResY (P : Program) (L : List (Nat × Value)) (M : List Chunk) : List ResultVar → List Value → Prop where
  | nil : ResY P L M [] []
  | tmp {t : Nat} {v : Value} {r : List ResultVar} {vs : List Value} (h : lk L t = some v) (k : ResY P L M r vs) : ResY P L M (.tmp t :: r) (v :: vs)
  | cellS {t ty : Nat} {b off : Nat} {T : TypeId} {Lb : List (Nat × Value)} {v : Value} {r : List ResultVar} {vs : List Value} (h : lk L t = some (.pointer (some ⟨b, off, none⟩))) (i : SC P ty) (hm : InM M b (Cells T Lb)) (hv : lk Lb off = some v) (k : ResY P L M r vs) : ResY P L M (.cell t ty :: r) (v :: vs)
  | cellA {t ty m : Nat} {b off : Nat} {T : TypeId} {Lb : List (Nat × Value)} {us : List Value} {r : List ResultVar} {vs : List Value} (h : lk L t = some (.pointer (some ⟨b, off, none⟩))) (i : AG P ty m) (hm : InM M b (Cells T Lb)) (hv : lks Lb off m = some us) (k : ResY P L M r vs) : ResY P L M (.cell t ty :: r) (.agg us.toArray :: vs)
  | cellR {t ty m : Nat} {b : Nat} {T : TypeId} {us : List Value} {r : List ResultVar} {vs : List Value} (h : lk L t = some (.pointer (some ⟨b, 0, none⟩))) (i : AG P ty m) (hm : InM M b (Arr T us)) (hn : us.length = m) (k : ResY P L M r vs) : ResY P L M (.cell t ty :: r) (.agg us.toArray :: vs)
theorem ResY.res {a : Act} {w : World} (HE : Env a N D L) (HS : St w0 G0 K0 G w M) {rs : List ResultVar} {vs : List Value} (h : ResY P L M rs vs) : Res P a w rs vs := by
  induction h with
  | nil => exact .nil
  | tmp h k ih => exact HE.res h ih
  | cellS h i hm hv k ih => exact HE.resS HS h i.h hm hv ih
  | cellA h i hm hv k ih => exact HE.resA HS h i.h hm hv ih
  | cellR h i hm hn k ih => subst hn; exact HE.resR HS h i.h hm ih
/-- The end of a call. -/
theorem w_ret {fn : Func} {R : Value → Heap → Prop} {vs : List Value} (hQ : ∀ e a w, bodyPost P fn (Ret w0 G0 R) e a w → Q0 e a w) (h : R (packed vs) G)
    (hr : ResY P L M fn.results.toList vs := by repeat (first | exact .nil | apply ResY.tmp rfl | (apply ResY.cellS rfl; (infer_instance); (focus (repeat (first | exact .here .here | exact .here (.there .here) | exact .here (.there (.there .here)) | apply InM.there))); exact rfl) | (apply ResY.cellA rfl; (infer_instance); (focus (repeat (first | exact .here .here | exact .here (.there .here) | exact .here (.there (.there .here)) | apply InM.there))); exact rfl) | (apply ResY.cellR rfl; (infer_instance); (focus (repeat (first | exact .here .here | exact .here (.there .here) | exact .here (.there (.there .here)) | apply InM.there))); (first | (simp only [List.length_map, List.length_replicate, List.length_set, List.length_append, List.length_cons, List.length_nil]; first | done | omega) | omega)))) : W P Q0 N [] w0 G0 [] (.co .ret :: s) G L M :=
  W.of fun a w E S => wp_ret (aft_ret (ret hQ E rfl (hr.res E S) ⟨_, _, S.stop (List.nil_sublist _), rfl, h⟩))
theorem w_retM {fn : Func} {R : Value → Heap → List Chunk → Prop} {vs : List Value} {Ms R0 : List Chunk} (hQ : ∀ e a w, bodyPost P fn (Ends w0 G0 K0 (fun v G' C' => ∃ Ms', C' = Ms'.flatten ∧ R v G' Ms') (fun _ _ _ => False)) e a w → Q0 e a w) (hm : Sel M Ms R0) (h : R (packed vs) G Ms)
    (hr : ResY P L M fn.results.toList vs := by repeat (first | exact .nil | apply ResY.tmp rfl | (apply ResY.cellS rfl; (infer_instance); (focus (repeat (first | exact .here .here | exact .here (.there .here) | exact .here (.there (.there .here)) | apply InM.there))); exact rfl) | (apply ResY.cellA rfl; (infer_instance); (focus (repeat (first | exact .here .here | exact .here (.there .here) | exact .here (.there (.there .here)) | apply InM.there))); exact rfl) | (apply ResY.cellR rfl; (infer_instance); (focus (repeat (first | exact .here .here | exact .here (.there .here) | exact .here (.there (.there .here)) | apply InM.there))); (first | (simp only [List.length_map, List.length_replicate, List.length_set, List.length_append, List.length_cons, List.length_nil]; first | done | omega) | omega)))) : W P Q0 N [] w0 G0 K0 (.co .ret :: s) G L M :=
  W.of fun a w E S => wp_ret (aft_ret (ret hQ E rfl (hr.res E S) ⟨_, _, (S.sel0 hm).stop (List.Sublist.refl _), _, rfl, h⟩))
theorem w_endM {fn : Func} {R : Value → Heap → List Chunk → Prop} {vs : List Value} {Ms R0 : List Chunk} (hQ : ∀ e a w, bodyPost P fn (Ends w0 G0 K0 (fun v G' C' => ∃ Ms', C' = Ms'.flatten ∧ R v G' Ms') (fun _ _ _ => False)) e a w → Q0 e a w) (hm : Sel M Ms R0) (h : R (packed vs) G Ms) (hr : ResY P L M fn.results.toList vs) : W P Q0 N [] w0 G0 K0 [] G L M :=
  W.of fun a w E S => retN hQ E rfl (hr.res E S) ⟨_, _, (S.sel0 hm).stop (List.Sublist.refl _), _, rfl, h⟩

/-! ## Calls -/
class GoF (P : Program) (f : Nat) : Prop where
  h : goFn P f = true
theorem Ret.up {w : World} {G1 : Heap} {r : Value} {e : Ending} {w' : World} (h : Ret w G (fun v _ => v = r) e w') (hs : Sub G1 w) : Ret w G1 (fun v _ => v = r) e w' := by
  cases e with
  | returned v =>
    obtain ⟨G', M', ha, hm, hr⟩ := h
    exact ⟨G1, [], { os := ha.os, tape := ha.tape, output := ha.output, size := ha.size, kept := ha.kept, le := Heap.le.refl _, new := fun _ _ h => .inl h, sub := fun b o hb => by rw [ha.kept b (hs.lt hb) (by simp)]; exact hs b o hb, mem := by simp, sep := by simp, own := by simp, nodup := by simp }, rfl, hr⟩
  | panicked c => obtain ⟨_, _, _, hf⟩ := h; exact hf.elim
  | outgrown => exact h.elim
theorem p_call {f : Nat} {x : Operand} {xs : Array Operand} {ats : Array TypeId} {us vs cs : List Value} {r : Value} [g : GoF P f] (hN : Nat.blt d N = true) (hx : ev L x = some (.func (.func f) us.toArray cs.toArray)) (hv : evs L xs.toList = some vs) (hc : FnP P f (us ++ vs ++ cs) G r) :
    Stp P N D w0 G0 K0 ops G L M ⟨some d, .call ⟨.value x, xs, ats⟩, ty, pos, af, none⟩ d r :=
  ⟨rfl, fun Q rest a w G1 hl E S k => o_callP E hN S hx hv g.h ((hc w (fun b o hb => S.sub b o (hl b o hb))).mono fun e w' h => Ret.up h S.sub) fun v w' a' S' hr E' => by subst hr; exact k a' w' G1 (Heap.le.refl _) E' S'⟩
theorem w_call {f : Nat} {x : Operand} {xs : Array Operand} {ats : Array TypeId} {us vs cs : List Value} {R : Value → Heap → Prop} [g : GoF P f] (hN : Nat.blt d N = true) (hx : ev L x = some (.func (.func f) us.toArray cs.toArray)) (hv : evs L xs.toList = some vs) (hc : FnR P f (us ++ vs ++ cs) G R)
    (k : ∀ v G', Le1 G G' → R v G' → W P Q0 N D w0 G0 K0 (.ops all rest :: s) G' ((d, v) :: L) M) : W P Q0 N D w0 G0 K0 (.ops all (⟨some d, .call ⟨.value x, xs, ats⟩, ty, pos, af, none⟩ :: rest) :: s) G L M :=
  W.of fun a w E S => o_call E hN S hx hv g.h (hc w S.sub) fun v G' w' a' S' hl hr E' => (k v G' ⟨hl⟩ hr).run a' w' E' S'
theorem w_callM {f : Nat} {x : Operand} {xs : Array Operand} {ats : Array TypeId} {us vs cs : List Value} {Ms R0 : List Chunk} {R : Value → Heap → List Chunk → Prop} [g : GoF P f] (hN : Nat.blt d N = true) (hx : ev L x = some (.func (.func f) us.toArray cs.toArray)) (hv : evs L xs.toList = some vs) (hc : FnM P f (us ++ vs ++ cs) G Ms R) (hm : Sel M Ms R0)
    (k : ∀ v G' Ms', Le1 G G' → R v G' Ms' → W P Q0 N D w0 G0 K0 (.ops all rest :: s) G' ((d, v) :: L) (Ms' ++ R0)) : W P Q0 N D w0 G0 K0 (.ops all (⟨some d, .call ⟨.value x, xs, ats⟩, ty, pos, af, none⟩ :: rest) :: s) G L M :=
  W.of fun a w E S => o_callMs Ms E hN (S.sel hm) hx hv g.h (hc w (S.sel hm)) fun v G' C' w' a' S' hl hr E' => by
    obtain ⟨Ms', rfl, hr⟩ := hr
    exact (k v G' Ms' ⟨hl⟩ hr).run a' w' E' S'.unflat
/-! ## Loops -/
def LI {α : Type} (N : Nat) (D : List Deferred) (w0 : World) (G0 : Heap) (K0 : List Nat) (G : Heap) (L : List (Nat × Value)) (X : α → List (Nat × Value)) (Mx : α → List Chunk) (p : α → Heap → Prop) (μ : α → Nat) (x : α) : Act → World → Prop :=
  fun a w => ∃ x' G', Heap.le G G' ∧ p x' G' ∧ μ x' < μ x ∧ Env a N D (X x' ++ L) ∧ St w0 G0 K0 G' w (Mx x')
theorem w_loop {α : Type} {c : Code} {R : List Chunk} (X : α → List (Nat × Value)) (Mx : α → List Chunk) (p : α → Heap → Prop) (μ : α → Nat) (x0 : α) (h0 : p x0 G)
    (round : ∀ x G', Le1 G G' → p x G' → W P Q0 N D w0 G0 K0 (.co c :: .cut (LI N D w0 G0 K0 G L X Mx p μ x) :: s) G' (X x ++ L) (Mx x))
    (hs : AllV L (X x0 ++ L) [] := by repeat (first | exact trivial | refine ⟨.inl rfl, ?_⟩ | refine ⟨.inr rfl, ?_⟩)) (hm : Sel M (Mx x0) R := by repeat (first | exact Sel.nil | (apply Sel.cons; (focus (repeat (first | exact Pk.here | apply Pk.there)))))) : W P Q0 N D w0 G0 K0 (.co (.loop c) :: s) G L M := by
  refine W.of fun a w E S => ?_
  refine loop (fun (x : α) a w => ∃ G', Heap.le G G' ∧ p x G' ∧ Env a N D (X x ++ L) ∧ St w0 G0 K0 G' w (Mx x)) μ x0 ⟨G, Heap.le.refl _, h0, E.cutV hs, S.sel0 hm⟩ ?_
  intro x a w ⟨G', hl, hp, E', S'⟩
  refine wp_mono ((round x G' ⟨hl⟩ hp).run a w E' S') fun e a w he => ?_
  cases e with
  | normal => obtain ⟨x', G2, h1, h2, h3, h4, h5⟩ := he; exact ⟨x', ⟨G2, h1, h2, h4, h5⟩, h3⟩
  | _ => exact he
theorem w_again {α : Type} {L0 : List (Nat × Value)} {Gl : Heap} {X : α → List (Nat × Value)} {Mx : α → List Chunk} {p : α → Heap → Prop} {μ : α → Nat} {x : α} {R : List Chunk} [hl : LeT Gl G] (x' : α) (hp : p x' G) (hμ : μ x' < μ x)
    (hs : AllV L (X x' ++ L0) [] := by repeat (first | exact trivial | refine ⟨.inl rfl, ?_⟩ | refine ⟨.inr rfl, ?_⟩)) (hm : Sel M (Mx x') R := by repeat (first | exact Sel.nil | (apply Sel.cons; (focus (repeat (first | exact Pk.here | apply Pk.there)))))) : W P Q0 N D w0 G0 K0 (.cut (LI N D w0 G0 K0 Gl L0 X Mx p μ x) :: s) G L M :=
  W.of fun a w E S => ⟨x', G, hl.le, hp, hμ, E.cutV hs, S.sel0 hm⟩

/-! ## Operations by themselves -/
theorem p_ar {op : BinOp} {t t' : TypeId} {x y : Operand} {q : IntKind} {i j r : Int} (hN : Nat.blt d N = true) (hx : ev L x = some (.int q i)) (hy : ev L y = some (.int q j)) (ho : (op = .add ∧ q.wrap (i + j) = r) ∨ (op = .sub ∧ q.wrap (i - j) = r) ∨ (op = .mul ∧ q.wrap (i * j) = r) ∨ (op = .rem ∧ j ≠ 0 ∧ i.tmod j = r) ∨ (op = .quo ∧ j ≠ 0 ∧ q.wrap (i.tdiv j) = r)) :
    Stp P N D w0 G0 K0 ops G L M ⟨some d, .binOp op t x y t', ty, pos, af, none⟩ d (.int q r) :=
  Stp.pure fun Q rest a w G1 hl E S k => by
    rcases ho with ⟨rfl, rfl⟩ | ⟨rfl, rfl⟩ | ⟨rfl, rfl⟩ | ⟨rfl, h0, rfl⟩ | ⟨rfl, h0, rfl⟩
    · exact o_addW E hN hx hy k
    · exact o_subW E hN hx hy k
    · exact o_mulW E hN hx hy k
    · exact o_remW E hN hx hy h0 k
    · exact o_quoW E hN hx hy h0 k
theorem wrap_u32 {n : Int} (h : 0 ≤ n ∧ n ≤ 4294967295) : IntKind.u32.wrap n = n := by
  simp only [IntKind.wrap, IntKind.signed, IntKind.bits]
  simp; omega
theorem p_add {t t' : TypeId} {x y : Operand} {i j : Int} (hN : Nat.blt d N = true) (hx : ev L x = some (.int .i64 i)) (hy : ev L y = some (.int .i64 j)) (h : -9223372036854775808 ≤ i + j ∧ i + j ≤ 9223372036854775807) : Stp P N D w0 G0 K0 ops G L M ⟨some d, .binOp .add t x y t', ty, pos, af, none⟩ d (.int .i64 (i + j)) := p_ar hN hx hy (.inl ⟨rfl, wrap_i64 h⟩)
theorem p_sub {t t' : TypeId} {x y : Operand} {i j : Int} (hN : Nat.blt d N = true) (hx : ev L x = some (.int .i64 i)) (hy : ev L y = some (.int .i64 j)) (h : -9223372036854775808 ≤ i - j ∧ i - j ≤ 9223372036854775807) : Stp P N D w0 G0 K0 ops G L M ⟨some d, .binOp .sub t x y t', ty, pos, af, none⟩ d (.int .i64 (i - j)) := p_ar hN hx hy (.inr (.inl ⟨rfl, wrap_i64 h⟩))
theorem p_mul {t t' : TypeId} {x y : Operand} {i j : Int} (hN : Nat.blt d N = true) (hx : ev L x = some (.int .i64 i)) (hy : ev L y = some (.int .i64 j)) (h : -9223372036854775808 ≤ i * j ∧ i * j ≤ 9223372036854775807) : Stp P N D w0 G0 K0 ops G L M ⟨some d, .binOp .mul t x y t', ty, pos, af, none⟩ d (.int .i64 (i * j)) := p_ar hN hx hy (.inr (.inr (.inl ⟨rfl, wrap_i64 h⟩)))
theorem p_add64 {t t' : TypeId} {x y : Operand} {i j : Int} (hN : Nat.blt d N = true) (hx : ev L x = some (.int .u64 i)) (hy : ev L y = some (.int .u64 j)) (h : 0 ≤ i + j ∧ i + j ≤ 18446744073709551615) : Stp P N D w0 G0 K0 ops G L M ⟨some d, .binOp .add t x y t', ty, pos, af, none⟩ d (.int .u64 (i + j)) := p_ar hN hx hy (.inl ⟨rfl, wrap_u64 h⟩)
theorem p_sub64 {t t' : TypeId} {x y : Operand} {i j : Int} (hN : Nat.blt d N = true) (hx : ev L x = some (.int .u64 i)) (hy : ev L y = some (.int .u64 j)) (h : 0 ≤ i - j ∧ i - j ≤ 18446744073709551615) : Stp P N D w0 G0 K0 ops G L M ⟨some d, .binOp .sub t x y t', ty, pos, af, none⟩ d (.int .u64 (i - j)) := p_ar hN hx hy (.inr (.inl ⟨rfl, wrap_u64 h⟩))
theorem p_mul64 {t t' : TypeId} {x y : Operand} {i j : Int} (hN : Nat.blt d N = true) (hx : ev L x = some (.int .u64 i)) (hy : ev L y = some (.int .u64 j)) (h : 0 ≤ i * j ∧ i * j ≤ 18446744073709551615) : Stp P N D w0 G0 K0 ops G L M ⟨some d, .binOp .mul t x y t', ty, pos, af, none⟩ d (.int .u64 (i * j)) := p_ar hN hx hy (.inr (.inr (.inl ⟨rfl, wrap_u64 h⟩)))
theorem p_addQ {t t' : TypeId} {x y : Operand} {q : IntKind} {i j : Int} (hN : Nat.blt d N = true) (hx : ev L x = some (.int q i)) (hy : ev L y = some (.int q j)) : Stp P N D w0 G0 K0 ops G L M ⟨some d, .binOp .add t x y t', ty, pos, af, none⟩ d (.int q (q.wrap (i + j))) := p_ar hN hx hy (.inl ⟨rfl, rfl⟩)
theorem p_subQ {t t' : TypeId} {x y : Operand} {q : IntKind} {i j : Int} (hN : Nat.blt d N = true) (hx : ev L x = some (.int q i)) (hy : ev L y = some (.int q j)) : Stp P N D w0 G0 K0 ops G L M ⟨some d, .binOp .sub t x y t', ty, pos, af, none⟩ d (.int q (q.wrap (i - j))) := p_ar hN hx hy (.inr (.inl ⟨rfl, rfl⟩))
theorem p_mulQ {t t' : TypeId} {x y : Operand} {q : IntKind} {i j : Int} (hN : Nat.blt d N = true) (hx : ev L x = some (.int q i)) (hy : ev L y = some (.int q j)) : Stp P N D w0 G0 K0 ops G L M ⟨some d, .binOp .mul t x y t', ty, pos, af, none⟩ d (.int q (q.wrap (i * j))) := p_ar hN hx hy (.inr (.inr (.inl ⟨rfl, rfl⟩)))
/-- 'i % j', both not below nought. -/
theorem p_rem {t t' : TypeId} {x y : Operand} {q : IntKind} {i j : Int} (hN : Nat.blt d N = true) (hx : ev L x = some (.int q i)) (hy : ev L y = some (.int q j)) (h : 0 ≤ i ∧ 0 < j) : Stp P N D w0 G0 K0 ops G L M ⟨some d, .binOp .rem t x y t', ty, pos, af, none⟩ d (.int q (i % j)) := p_ar hN hx hy (.inr (.inr (.inr (.inl ⟨rfl, by omega, Int.tmod_eq_emod_of_nonneg h.1⟩))))
def shrI (q : IntKind) (i j : Int) : Int := i / (2 ^ min j.toNat q.bits : Int)
def shlI (q : IntKind) (i j : Int) : Int := q.wrap (i * (2 ^ min j.toNat q.bits : Int))
theorem p_shr {t t' : TypeId} {x y : Operand} {q q' : IntKind} {i j : Int} (hN : Nat.blt d N = true) (hx : ev L x = some (.int q i)) (hy : ev L y = some (.int q' j)) (hj : 0 ≤ j) : Stp P N D w0 G0 K0 ops G L M ⟨some d, .binOp .shr t x y t', ty, pos, af, none⟩ d (.int q (shrI q i j)) :=
  Stp.pure fun Q rest a w G1 hl E S k => o_shr E hN hx hy hj rfl (Int.le_of_lt (Int.pow_pos (by decide))) k
theorem p_shl {t t' : TypeId} {x y : Operand} {q q' : IntKind} {i j : Int} (hN : Nat.blt d N = true) (hx : ev L x = some (.int q i)) (hy : ev L y = some (.int q' j)) (hj : 0 ≤ j) : Stp P N D w0 G0 K0 ops G L M ⟨some d, .binOp .shl t x y t', ty, pos, af, none⟩ d (.int q (shlI q i j)) :=
  Stp.pure fun Q rest a w G1 hl E S k => o_shl E hN hx hy hj rfl k
theorem u64_nn (n : Int) : 0 ≤ IntKind.u64.wrap n := by
  simp only [IntKind.wrap, IntKind.signed, IntKind.bits]; simp; omega
theorem p_neg {t : TypeId} {x : Operand} {q : IntKind} {i : Int} (hN : Nat.blt d N = true) (hx : ev L x = some (.int q i)) : Stp P N D w0 G0 K0 ops G L M ⟨some d, .unOp .neg t x, ty, pos, af, none⟩ d (.int q (q.wrap (0 - i))) :=
  Stp.pure fun Q rest a w G1 hl E S k => o_neg E hN hx k
def cplI (q : IntKind) (i : Int) : Int := bXor q (if q.signed then -1 else q.max) i
theorem p_cpl {t : TypeId} {x : Operand} {q : IntKind} {i : Int} (hN : Nat.blt d N = true) (hx : ev L x = some (.int q i)) : Stp P N D w0 G0 K0 ops G L M ⟨some d, .unOp .xor t x, ty, pos, af, none⟩ d (.int q (cplI q i)) :=
  Stp.pure fun Q rest a w G1 hl E S k => op_val rfl rfl E hN (by
    have h1 : ∀ w, (Op.unary .xor (.int q i)).run P w = .ok (.int q (cplI q i)) w := fun w => by simp [Op.unary, go_sem, Op.intBits, cplI, bXor]
    simp [execOp, E.eval hx, h1]) k
theorem p_min {t : TypeId} {x y : Operand} {q : IntKind} {i j : Int} (hN : Nat.blt d N = true) (hx : ev L x = some (.int q i)) (hy : ev L y = some (.int q j)) : Stp P N D w0 G0 K0 ops G L M ⟨some d, .call ⟨.builtin .min, #[x, y], #[t, t]⟩, ty, pos, af, none⟩ d (.int q (min i j)) :=
  Stp.pure fun Q rest a w G1 hl E S k => op_val rfl rfl E hN (by
    have e : (if j < i then j else i) = min i j := by split <;> omega
    simp [execOp, resolve, invoke, builtin, E.eval hx, E.eval hy, Builtin.min_, Builtin.min2, e]) k
class CV (P : Program) (s t : Nat) (q : outParam IntKind) : Prop where
  h : convOk P s t q = true
theorem p_conv {src dst : TypeId} {x : Operand} {q q' : IntKind} {i r : Int} [c : CV P src dst q'] (hN : Nat.blt d N = true) (hx : ev L x = some (.int q i)) (h : q'.wrap i = r) : Stp P N D w0 G0 K0 ops G L M ⟨some d, .convert src dst x, ty, pos, af, none⟩ d (.int q' r) :=
  Stp.pure fun Q rest a w G1 hl E S k => by
    subst h
    have ht := c.h
    refine op_val rfl rfl E hN ?_ k
    unfold convOk at ht
    simp only [Bool.and_eq_true] at ht
    obtain ⟨h1, h2⟩ := ht
    cases hs : P.underlying src with
    | none => simp [hs] at h1
    | some ts =>
      cases hd : P.underlying dst with
      | none => simp [hd] at h2
      | some td =>
        cases td <;> simp [hd] at h2
        rename_i k0
        obtain rfl : k0 = q' := by simpa using h2
        have h3 : (convert src dst (.int q i)).run P w = .ok (.int k0 (k0.wrap i)) w := by
          simp [convert, run_underlying hs, run_underlying hd, Conv.intToInt]
        simp [execOp, E.eval hx, h3]
end
end Go.Proofs.YtngoaapgdfohjaaGreatDoor.X

set_option linter.unusedVariables false
set_option linter.unusedSimpArgs false
namespace Go.Proofs.YtngoaapgdfohjaaGreatDoor.X
open Go
def aB : Option Addr → Nat
  | some a => a.block
  | none => 0
def aO : Option Addr → Nat
  | some a => a.off
  | none => 0
/-- Zero values of types whose blocks are told whole. -/
class ZR (P : Program) (T : Nat) (vs : outParam (List Value)) : Prop where
  h : ∃ z, zeroOf P T = some z ∧ cellsOf z = vs
section
variable {P : Program} {Q0 : Exit → Act → World → Prop} {N : Nat} {D : List Deferred} {w0 : World} {G0 : Heap} {K0 : List Nat} {s : List Itm} {G G1 : Heap} {L L' : List (Nat × Value)} {M M' : List Chunk} {ops all : Array Oper} {o : Oper} {d : Nat} {v : Value} {rest : List Oper}
variable {ty : TypeId} {pos : String} {af : Array Edge} {tb : Tb} {x y z : Operand} {t T b off : Nat} {Lb : List (Nat × Value)}
/-! ## New blocks -/
theorem w_alloc [i : LZ P T Lb] (hN : Nat.blt d N = true) (k : ∀ b, W P Q0 N D w0 G0 K0 (.ops all rest :: s) G ((d, .pointer (some ⟨b, 0, none⟩)) :: L) ([(b, Cells T Lb)] :: M)) : W P Q0 N D w0 G0 K0 (.ops all (⟨some d, .alloc T, ty, pos, af, none⟩ :: rest) :: s) G L M :=
  W.of fun a w E S => o_allocZ E hN S fun b w' a' S' E' => (k b).run a' w' E' S'
theorem w_allocR {vs : List Value} [i : ZR P T vs] (hN : Nat.blt d N = true) (k : ∀ b, W P Q0 N D w0 G0 K0 (.ops all rest :: s) G ((d, .pointer (some ⟨b, 0, none⟩)) :: L) ([(b, Arr T vs)] :: M)) : W P Q0 N D w0 G0 K0 (.ops all (⟨some d, .alloc T, ty, pos, af, none⟩ :: rest) :: s) G L M :=
  W.of fun a w E S => by
    obtain ⟨z, hz, hv⟩ := i.h
    subst hv
    exact o_allocR E hN S hz fun b w' a' S' E' => (k b).run a' w' E' S'
theorem w_box (hN : Nat.blt d N = true) (hx : ev L x = some v) (hL : AllIn (enum 0 (cellsOf v)) Lb) (k : ∀ b, W P Q0 N D w0 G0 K0 (.ops all rest :: s) G ((d, .pointer (some ⟨b, 0, none⟩)) :: L) ([(b, Cells T Lb)] :: M)) : W P Q0 N D w0 G0 K0 (.ops all (⟨some d, .box T x, ty, pos, af, none⟩ :: rest) :: s) G L M :=
  W.of fun a w E S => o_boxL Lb E hN S hx hL fun b w' a' S' E' => (k b).run a' w' E' S'
/-- A value that is one cell. -/
theorem w_box1 (hN : Nat.blt d N = true) (hx : ev L x = some v) (h1 : cellsOf v = [v]) (k : ∀ b, W P Q0 N D w0 G0 K0 (.ops all rest :: s) G ((d, .pointer (some ⟨b, 0, none⟩)) :: L) ([(b, Cells T [(0, v)])] :: M)) : W P Q0 N D w0 G0 K0 (.ops all (⟨some d, .box T x, ty, pos, af, none⟩ :: rest) :: s) G L M :=
  w_box (Lb := [(0, v)]) hN hx (by rw [h1]; exact ⟨rfl, trivial⟩) k
/-- A value that is told whole. -/
theorem w_boxR {vs : List Value} (hN : Nat.blt d N = true) (hx : ev L x = some (.agg vs.toArray)) (k : ∀ b, W P Q0 N D w0 G0 K0 (.ops all rest :: s) G ((d, .pointer (some ⟨b, 0, none⟩)) :: L) ([(b, Arr T vs)] :: M)) : W P Q0 N D w0 G0 K0 (.ops all (⟨some d, .box T x, ty, pos, af, none⟩ :: rest) :: s) G L M :=
  W.of fun a w E S => by
    show wpList P all (aft P Q0 s) (⟨some d, .box T x, ty, pos, af, none⟩ :: rest) a w
    exact op_val (w' := w.alloc (.cells vs.toArray T)) (v := .pointer (some ⟨w.heap.size, 0, none⟩)) rfl rfl E hN
      (by simp [execOp, E.eval hx, Instr.box, newVar, run_row, Value.cells]) fun a' E' => (k _).run a' _ E' (S.alloc _ rfl)
/-! ## Loads -/
theorem p_ld [h : HasTb P tb] (hN : Nat.blt d N = true) (hx : ev L x = some (.pointer (some ⟨b, off, none⟩))) (ht : tb.sc.elem t = true) (hm : InM M b (Cells T Lb)) (hv : lk Lb off = some v) : Stp P N D w0 G0 K0 ops G L M ⟨some d, .load t x, ty, pos, af, none⟩ d v :=
  Stp.pure fun Q rest a w G1 hl E S k => o_ld E hN S hx (tb_sc h ht) hm hv k
theorem p_ldA {n : Nat} {vs : List Value} [h : HasTb P tb] (hN : Nat.blt d N = true) (hx : ev L x = some (.pointer (some ⟨b, off, none⟩))) (ht : look1 tb.ag t = some n) (hm : InM M b (Cells T Lb)) (hv : lks Lb off n = some vs) : Stp P N D w0 G0 K0 ops G L M ⟨some d, .load t x, ty, pos, af, none⟩ d (.agg vs.toArray) :=
  Stp.pure fun Q rest a w G1 hl E S k => o_ldA E hN S hx (tb_ag h ht) hm hv k
theorem p_ldR {vs : List Value} [h : HasTb P tb] (hN : Nat.blt d N = true) (hx : ev L x = some (.pointer (some ⟨b, off, none⟩))) (ht : tb.sc.elem t = true) (hm : InM M b (Arr T vs)) (hv : vs[off]? = some v) : Stp P N D w0 G0 K0 ops G L M ⟨some d, .load t x, ty, pos, af, none⟩ d v :=
  Stp.pure fun Q rest a w G1 hl E S k => o_ldR E hN S hx (tb_sc h ht) hm hv k
/-- One of a row of numbers. -/
theorem p_ldRi {q : IntKind} {xs : List Int} {j : Nat} [h : HasTb P tb] (hN : Nat.blt d N = true) (hx : ev L x = some (.pointer (some ⟨b, 0 + j * 1, none⟩))) (ht : tb.sc.elem t = true) (hm : InM M b (Arr T (xs.map (Value.int q)))) (hj : j < xs.length) : Stp P N D w0 G0 K0 ops G L M ⟨some d, .load t x, ty, pos, af, none⟩ d (.int q (xs.getD j 0)) :=
  p_ldR hN hx ht hm (by rw [Nat.zero_add, Nat.mul_one, List.getElem?_map, List.getElem?_eq_getElem hj]; simp [List.getD_eq_getElem?_getD, List.getElem?_eq_getElem hj])
theorem p_ldRx {q : IntKind} {xs : List Int} [h : HasTb P tb] (hN : Nat.blt d N = true) (hx : ev L x = some (.pointer (some ⟨b, off, none⟩))) (ht : tb.sc.elem t = true) (hm : InM M b (Arr T (xs.map (Value.int q)))) (hj : off < xs.length) : Stp P N D w0 G0 K0 ops G L M ⟨some d, .load t x, ty, pos, af, none⟩ d (.int q (xs.getD off 0)) :=
  p_ldR hN hx ht hm (by rw [List.getElem?_map, List.getElem?_eq_getElem hj]; simp [List.getD_eq_getElem?_getD, List.getElem?_eq_getElem hj])
theorem p_ldRA {n : Nat} {vs : List Value} [h : HasTb P tb] (hN : Nat.blt d N = true) (hx : ev L x = some (.pointer (some ⟨b, 0, none⟩))) (ht : look1 tb.ag t = some n) (hm : InM M b (Arr T vs)) (hn : n = vs.length) : Stp P N D w0 G0 K0 ops G L M ⟨some d, .load t x, ty, pos, af, none⟩ d (.agg vs.toArray) :=
  Stp.pure fun Q rest a w G1 hl E S k => o_ldRA E hN S hx (by subst hn; exact tb_ag h ht) hm k
/-- A part of a row. -/
theorem p_ldRP {n : Nat} {vs us : List Value} [h : HasTb P tb] (hN : Nat.blt d N = true) (hx : ev L x = some (.pointer (some ⟨b, off, none⟩))) (ht : look1 tb.ag t = some n) (hm : InM M b (Arr T vs)) (hn : (vs.drop off).take n = us) (hl : us.length = n) : Stp P N D w0 G0 K0 ops G L M ⟨some d, .load t x, ty, pos, af, none⟩ d (.agg us.toArray) :=
  Stp.pure fun Q rest a w G1 hl' E S k => op_val rfl rfl E hN (by
    have ht' := tb_ag h ht
    rw [← hl] at ht'
    have := run_loadA (P := P) (w := w) (t := t) (ad := ⟨b, off, none⟩) (vs := us) ht' (fun j u hj => by
      rw [Addr.add_lit, S.arrCell hm]
      rw [← hn, List.getElem?_take] at hj
      split at hj
      · rw [List.getElem?_drop] at hj; exact hj
      · cases hj)
    simp [execOp, E.eval hx, Instr.loadAt, Instr.sureAddr, this]) k
theorem p_ldI {bo j : Nat} {cs : List Value} [h : HasTb P tb] (hN : Nat.blt d N = true) (hx : ev L x = some (.pointer (some ⟨b, off, none⟩))) (ht : tb.sc.elem t = true) (hC : CellsAt G1 b bo cs) (hl : LeT G1 G) (ho : off = bo + j) (hv : cs[j]? = some v) : Stp P N D w0 G0 K0 ops G L M ⟨some d, .load t x, ty, pos, af, none⟩ d v :=
  Stp.pure fun Q rest a w G2 hl2 E S k => o_ldI E hN S hx (tb_sc h ht) (hC.le (hl.le.trans hl2)) ho hv k
theorem p_ldIA {n : Nat} {cs : List Value} [h : HasTb P tb] (hN : Nat.blt d N = true) (hx : ev L x = some (.pointer (some ⟨b, off, none⟩))) (ht : look1 tb.ag t = some n) (hC : CellsAt G1 b off cs) (hl : LeT G1 G) (hn : n = cs.length) : Stp P N D w0 G0 K0 ops G L M ⟨some d, .load t x, ty, pos, af, none⟩ d (.agg cs.toArray) :=
  Stp.pure fun Q rest a w G2 hl2 E S k => o_ldIA E hN S hx (hC.le (hl.le.trans hl2)) (by subst hn; exact tb_ag h ht) k
theorem p_ldG {q : IntKind} {xs : List Int} {j : Nat} [h : HasTb P tb] (hN : Nat.blt d N = true) (hx : ev L x = some (.pointer (some ⟨b, 0 + j * 1, none⟩))) (ht : tb.sc.elem t = true) (hC : CellsAt G1 b 0 (xs.map (Value.int q))) (hl : LeT G1 G) (hj : j < xs.length) : Stp P N D w0 G0 K0 ops G L M ⟨some d, .load t x, ty, pos, af, none⟩ d (.int q (xs.getD j 0)) :=
  p_ldI (j := j) hN hx ht hC hl (by omega) (by rw [List.getElem?_map, List.getElem?_eq_getElem hj]; simp [List.getD_eq_getElem?_getD, List.getElem?_eq_getElem hj])
/-! ## Elements of slices that aren't written -/
theorem Rd.open {α : Type} {K : Knd α} {A : Option Addr} {xs : List α} (h : Rd K G A xs) {j : Nat} (hj : j < xs.length) : A = some ⟨aB A, aO A, none⟩ ∧ ElAt K G (aB A) (aO A + j * K.sz) xs[j] := by
  obtain ⟨b, o, rfl, hx⟩ := h.at (List.getElem?_eq_getElem hj)
  exact ⟨rfl, hx⟩
theorem p_ixN {α : Type} {K : Knd α} {A : Option Addr} {n c m j e : Nat} {q : IntKind} {xs : List α} [h : HasTb P tb] (hN : Nat.blt d N = true) (hx : ev L x = some (.slice A n c)) (hy : ev L y = some (.int q (j : Int))) (ht : lookP tb.sl t = some (e, m)) (hR : Rd K G1 A xs) (hn : n = xs.length) (hj : j < xs.length) : Stp P N D w0 G0 K0 ops G L M ⟨some d, .indexAddr t x y, ty, pos, af, none⟩ d (.pointer (some ⟨aB A, aO A + j * m, none⟩)) :=
  Stp.pure fun Q rest a w G2 hl2 E S k => by
    obtain ⟨hA, _⟩ := hR.open hj
    rw [hA] at hx
    exact o_ixL E hN hx hy (tb_sl h ht) (by omega) fun a' E' => k a' (by simpa using E')
theorem p_ixI {α : Type} {K : Knd α} {A : Option Addr} {n c m e : Nat} {q : IntKind} {i : Int} {xs : List α} [h : HasTb P tb] (hN : Nat.blt d N = true) (hx : ev L x = some (.slice A n c)) (hy : ev L y = some (.int q i)) (ht : lookP tb.sl t = some (e, m)) (hR : Rd K G1 A xs) (hn : n = xs.length) (hj : 0 ≤ i ∧ i < xs.length) : Stp P N D w0 G0 K0 ops G L M ⟨some d, .indexAddr t x y, ty, pos, af, none⟩ d (.pointer (some ⟨aB A, aO A + i.toNat * m, none⟩)) :=
  Stp.pure fun Q rest a w G2 hl2 E S k => by
    obtain ⟨hA, _⟩ := hR.open (j := i.toNat) (by omega)
    rw [hA] at hx
    exact o_ixL E hN hx hy (tb_sl h ht) (by omega) fun a' E' => k a' E'
/-- An element that is one cell. -/
theorem p_ldK {α : Type} {enc : α → Value} {A : Option Addr} {xs : List α} {j : Nat} (dflt : α) [h : HasTb P tb] (hN : Nat.blt d N = true) (hx : ev L x = some (.pointer (some ⟨aB A, aO A + j * 1, none⟩))) (ht : tb.sc.elem t = true) (hR : Rd (Knd.of enc) G1 A xs) (hl : LeT G1 G) (hj : j < xs.length) : Stp P N D w0 G0 K0 ops G L M ⟨some d, .load t x, ty, pos, af, none⟩ d (enc (xs.getD j dflt)) :=
  Stp.pure fun Q rest a w G2 hl2 E S k => by
    obtain ⟨_, cs, h1, h2⟩ := hR.open hj
    have e : xs[j] = xs.getD j dflt := by simp [List.getD_eq_getElem?_getD, List.getElem?_eq_getElem hj]
    rw [e] at h1
    have h1' : cs = [enc (xs.getD j dflt)] := h1
    subst h1'
    exact o_ldI (j := 0) E hN S hx (tb_sc h ht) (h2.le (hl.le.trans hl2)) rfl rfl k
theorem p_ldKi {q : IntKind} {A : Option Addr} {xs : List Int} {j : Nat} [h : HasTb P tb] (hN : Nat.blt d N = true) (hx : ev L x = some (.pointer (some ⟨aB A, aO A + j * 1, none⟩))) (ht : tb.sc.elem t = true) (hR : Rd (Knd.int q) G1 A xs) (hl : LeT G1 G) (hj : j < xs.length) : Stp P N D w0 G0 K0 ops G L M ⟨some d, .load t x, ty, pos, af, none⟩ d (.int q (xs.getD j 0)) := p_ldK 0 hN hx ht hR hl hj
theorem p_ldKb {A : Option Addr} {xs : Bs} {j : Nat} [h : HasTb P tb] (hN : Nat.blt d N = true) (hx : ev L x = some (.pointer (some ⟨aB A, aO A + j * 1, none⟩))) (ht : tb.sc.elem t = true) (hR : Rd Knd.u8 G1 A xs) (hl : LeT G1 G) (hj : j < xs.length) : Stp P N D w0 G0 K0 ops G L M ⟨some d, .load t x, ty, pos, af, none⟩ d (.int .u8 ((xs.getD j 0).toNat : Int)) := p_ldK 0 hN hx ht hR hl hj
theorem p_ldKs {A : Option Addr} {xs : List Bs} {j : Nat} [h : HasTb P tb] (hN : Nat.blt d N = true) (hx : ev L x = some (.pointer (some ⟨aB A, aO A + j * 1, none⟩))) (ht : tb.sc.elem t = true) (hR : Rd Knd.s G1 A xs) (hl : LeT G1 G) (hj : j < xs.length) : Stp P N D w0 G0 K0 ops G L M ⟨some d, .load t x, ty, pos, af, none⟩ d (str (xs.getD j [])) := p_ldK [] hN hx ht hR hl hj
/-! ## Places in rows of one's own -/
theorem p_ixA {n m : Nat} {j : Nat} {q : IntKind} [h : HasTb P tb] (hN : Nat.blt d N = true) (hx : ev L x = some (.pointer (some ⟨b, off, none⟩))) (hy : ev L y = some (.int q (j : Int))) (ht : lookP tb.ar t = some (n, m)) (hj : j < n) : Stp P N D w0 G0 K0 ops G L M ⟨some d, .indexAddr t x y, ty, pos, af, none⟩ d (.pointer (some ⟨b, off + j * m, none⟩)) :=
  Stp.pure fun Q rest a w G2 hl2 E S k => o_ixA E hN hx hy (tb_ar h ht) (by omega) fun a' E' => k a' (by simpa using E')
theorem p_ixAi {n m : Nat} {i : Int} {q : IntKind} [h : HasTb P tb] (hN : Nat.blt d N = true) (hx : ev L x = some (.pointer (some ⟨b, off, none⟩))) (hy : ev L y = some (.int q i)) (ht : lookP tb.ar t = some (n, m)) (hj : 0 ≤ i ∧ i < n) : Stp P N D w0 G0 K0 ops G L M ⟨some d, .indexAddr t x y, ty, pos, af, none⟩ d (.pointer (some ⟨b, off + i.toNat * m, none⟩)) :=
  Stp.pure fun Q rest a w G2 hl2 E S k => o_ixA E hN hx hy (tb_ar h ht) hj k
theorem p_ixL {n c m e : Nat} {j : Nat} {q : IntKind} [h : HasTb P tb] (hN : Nat.blt d N = true) (hx : ev L x = some (.slice (some ⟨b, off, none⟩) n c)) (hy : ev L y = some (.int q (j : Int))) (ht : lookP tb.sl t = some (e, m)) (hj : j < n) : Stp P N D w0 G0 K0 ops G L M ⟨some d, .indexAddr t x y, ty, pos, af, none⟩ d (.pointer (some ⟨b, off + j * m, none⟩)) :=
  Stp.pure fun Q rest a w G2 hl2 E S k => o_ixL E hN hx hy (tb_sl h ht) (by omega) fun a' E' => k a' (by simpa using E')
theorem p_ixLi {n c m e : Nat} {i : Int} {q : IntKind} [h : HasTb P tb] (hN : Nat.blt d N = true) (hx : ev L x = some (.slice (some ⟨b, off, none⟩) n c)) (hy : ev L y = some (.int q i)) (ht : lookP tb.sl t = some (e, m)) (hj : 0 ≤ i ∧ i < n) : Stp P N D w0 G0 K0 ops G L M ⟨some d, .indexAddr t x y, ty, pos, af, none⟩ d (.pointer (some ⟨b, off + i.toNat * m, none⟩)) :=
  Stp.pure fun Q rest a w G2 hl2 E S k => o_ixL E hN hx hy (tb_sl h ht) hj k
/-- Arrays as values. -/
class IxV (P : Program) (t : Nat) (n : outParam Nat) : Prop where
  h : ∃ e, arrOf P t = some (n, 1) ∧ P.underlying t = some (.array n e) ∧ scal P e = true
theorem p_ixV {n j : Nat} {q q' : IntKind} {xs : List Int} [c : IxV P t n] (hN : Nat.blt d N = true) (hx : ev L x = some (.agg (xs.map (Value.int q)).toArray)) (hy : ev L y = some (.int q' (j : Int))) (hj : j < n ∧ j < xs.length) : Stp P N D w0 G0 K0 ops G L M ⟨some d, .index t x y, ty, pos, af, none⟩ d (.int q (xs.getD j 0)) :=
  Stp.pure fun Q rest a w G2 hl2 E S k => by
    obtain ⟨e, h1, h2, h3⟩ := c.h
    exact o_ixR E hN hx hy h1 h2 (by omega) (by rw [Int.toNat_natCast, List.getElem?_map, List.getElem?_eq_getElem hj.2]; simp [List.getD_eq_getElem?_getD, List.getElem?_eq_getElem hj.2]) h3 k
/-! ## Texts -/
theorem p_lenS {r : Bs} [h : HasTb P tb] (hN : Nat.blt d N = true) (hx : ev L x = some (str r)) (ht : tb.st.elem t = true) : Stp P N D w0 G0 K0 ops G L M ⟨some d, .call ⟨.builtin .len, #[x], #[t]⟩, ty, pos, af, none⟩ d (.int .i64 (r.length : Int)) :=
  Stp.pure fun Q rest a w G2 hl2 E S k => o_lenS E hN hx (tb_st h ht) k
theorem p_index {r : Bs} {q : IntKind} {i : Int} [h : HasTb P tb] (hN : Nat.blt d N = true) (hx : ev L x = some (str r)) (hy : ev L y = some (.int q i)) (ht : tb.st.elem t = true) (hi : 0 ≤ i ∧ i < r.length) : Stp P N D w0 G0 K0 ops G L M ⟨some d, .index t x y, ty, pos, af, none⟩ d (.int .u8 (bt r i)) :=
  Stp.pure fun Q rest a w G2 hl2 E S k => o_index E hN hx hy (tb_st h ht) hi k
theorem p_eqS {t t' : Nat} {r r' : Bs} (hN : Nat.blt d N = true) (hx : ev L x = some (str r)) (hy : ev L y = some (str r')) : Stp P N D w0 G0 K0 ops G L M ⟨some d, .binOp .eql t x y t', ty, pos, af, none⟩ d (.bool (r == r')) := Stp.pure fun Q rest a w G2 hl2 E S k => o_eqS E hN hx hy k
theorem p_neS {t t' : Nat} {r r' : Bs} (hN : Nat.blt d N = true) (hx : ev L x = some (str r)) (hy : ev L y = some (str r')) : Stp P N D w0 G0 K0 ops G L M ⟨some d, .binOp .neq t x y t', ty, pos, af, none⟩ d (.bool (!(r == r'))) := Stp.pure fun Q rest a w G2 hl2 E S k => o_neS E hN hx hy k
theorem p_cat {t t' : Nat} {r r' : Bs} (hN : Nat.blt d N = true) (hx : ev L x = some (str r)) (hy : ev L y = some (str r')) (h : r.length + r'.length ≤ 9223372036854775807) : Stp P N D w0 G0 K0 ops G L M ⟨some d, .binOp .add t x y t', ty, pos, af, none⟩ d (str (r ++ r')) := Stp.pure fun Q rest a w G2 hl2 E S k => o_cat E hN hx hy h k
theorem p_build {ps : Array (Nat × Operand)} {vs : List (Nat × Value)} {cs : Array Value} (hN : Nat.blt d N = true) (hp : evp L ps.toList = some vs) (hb : bldOf P t vs = some cs) : Stp P N D w0 G0 K0 ops G L M ⟨some d, .build t ps, ty, pos, af, none⟩ d (.agg cs) :=
  Stp.pure fun Q rest a w G2 hl2 E S k => o_build E hN hp hb k
/-! ## Stores -/
theorem w_st {M' : List Chunk} {Lb' : List (Nat × Value)} [h : HasTb P tb] (hx : ev L x = some (.pointer (some ⟨b, off, none⟩))) (hy : ev L y = some v) (ht : tb.sc.elem t = true) (hm : RepM b (Cells T Lb) (Cells T Lb') M M') (h1 : one v = true) (hU : Upd Lb off v Lb')
    (k : W P Q0 N D w0 G0 K0 (.ops all rest :: s) G L M') : W P Q0 N D w0 G0 K0 (.ops all (⟨none, .store t x y, ty, pos, af, none⟩ :: rest) :: s) G L M := W.of fun a w E S => by
  obtain ⟨A, X, Y, B, rfl, rfl⟩ := hm.split
  obtain ⟨u, hu⟩ := hU.had
  refine o_st (M' := A ++ (X ++ (b, Cells T ((off, v) :: Lb)) :: Y) :: B) E S hx hy h1 (tb_sc h ht) (RepM.mk' A X Y B) hu fun w' S' => k.run a w' E ?_
  exact S'.turnP (RepM.mk' A X Y B) fun o ⟨c, e, hc⟩ => ⟨c, e, fun t x ht => hc t x (hU.look t x ht)⟩
theorem w_stA {n : Nat} {cs : Array Value} {M' : List Chunk} {Lb' : List (Nat × Value)} [h : HasTb P tb] (hx : ev L x = some (.pointer (some ⟨b, off, none⟩))) (hy : ev L y = some (.agg cs)) (ht : look1 tb.ag t = some n) (hm : RepM b (Cells T Lb) (Cells T Lb') M M') (hn : n = cs.toList.length) (h1 : cs.toList.all one = true) (hU : UpdN Lb off cs.toList Lb')
    (k : W P Q0 N D w0 G0 K0 (.ops all rest :: s) G L M') : W P Q0 N D w0 G0 K0 (.ops all (⟨none, .store t x y, ty, pos, af, none⟩ :: rest) :: s) G L M := W.of fun a w E S => by
  obtain ⟨A, X, Y, B, rfl, rfl⟩ := hm.split
  obtain ⟨us, hus⟩ := hU.had
  refine o_stA (M' := A ++ (X ++ (b, Cells T (enum off cs.toList ++ Lb)) :: Y) :: B) E S hx hy h1 (by subst hn; exact tb_ag h ht) (RepM.mk' A X Y B) hus fun w' S' => k.run a w' E ?_
  exact S'.turnP (RepM.mk' A X Y B) fun o ⟨c, e, hc⟩ => ⟨c, e, fun t x ht => hc t x (hU.look t x ht)⟩
theorem w_stR {vs : List Value} {M' : List Chunk} [h : HasTb P tb] (hx : ev L x = some (.pointer (some ⟨b, off, none⟩))) (hy : ev L y = some v) (h1 : one v = true) (ht : tb.sc.elem t = true) (hm : RepM b (Arr T vs) (Arr T (vs.set off v)) M M') (hu : off < vs.length)
    (k : W P Q0 N D w0 G0 K0 (.ops all rest :: s) G L M') : W P Q0 N D w0 G0 K0 (.ops all (⟨none, .store t x y, ty, pos, af, none⟩ :: rest) :: s) G L M := W.of fun a w E S => o_stR E S hx hy h1 (tb_sc h ht) hm hu fun w' S' => k.run a w' E S'
theorem w_stRi {q : IntKind} {r : Int} {xs : List Int} {j : Nat} {M' : List Chunk} [h : HasTb P tb] (hx : ev L x = some (.pointer (some ⟨b, 0 + j * 1, none⟩))) (hy : ev L y = some (.int q r)) (ht : tb.sc.elem t = true) (hm : RepM b (Arr T (xs.map (Value.int q))) (Arr T ((xs.set j r).map (Value.int q))) M M') (hu : j < xs.length)
    (k : W P Q0 N D w0 G0 K0 (.ops all rest :: s) G L M') : W P Q0 N D w0 G0 K0 (.ops all (⟨none, .store t x y, ty, pos, af, none⟩ :: rest) :: s) G L M :=
  w_stR hx hy rfl ht (by rw [Nat.zero_add, Nat.mul_one, ← List.map_set]; exact hm) (by simpa using hu) k
theorem w_stRA {n : Nat} {us vs : List Value} {M' : List Chunk} [h : HasTb P tb] (hx : ev L x = some (.pointer (some ⟨b, 0, none⟩))) (hy : ev L y = some (.agg vs.toArray)) (ht : look1 tb.ag t = some n) (hm : RepM b (Arr T us) (Arr T vs) M M') (h1 : vs.all one = true) (hl : vs.length = n) (hn : us.length = n)
    (k : W P Q0 N D w0 G0 K0 (.ops all rest :: s) G L M') : W P Q0 N D w0 G0 K0 (.ops all (⟨none, .store t x y, ty, pos, af, none⟩ :: rest) :: s) G L M := W.of fun a w E S => o_stRA E S hx hy (by subst hl; exact tb_ag h ht) hm ⟨h1, hl.trans hn.symm⟩ fun w' S' => k.run a w' E S'
theorem CellsAt.up {A B : Heap} [h : LeT A B] {b o : Nat} {cs : List Value} (k : CellsAt A b o cs) : CellsAt B b o cs := k.le h.le
theorem Rd.up {A B : Heap} [h : LeT A B] {α : Type} {K : Knd α} {ad : Option Addr} {xs : List α} (k : Rd K A ad xs) : Rd K B ad xs := k.le h.le
/-- A part of a row is stored. -/
theorem w_stRP {n : Nat} {us vs : List Value} {M' : List Chunk} [h : HasTb P tb] (hx : ev L x = some (.pointer (some ⟨b, off, none⟩))) (hy : ev L y = some (.agg us.toArray)) (ht : look1 tb.ag t = some n) (hm : RepM b (Arr T vs) (Arr T (vs.take off ++ us ++ vs.drop (off + us.length))) M M') (h1 : us.all one = true) (hl : us.length = n) (hn : off + us.length ≤ vs.length)
    (k : W P Q0 N D w0 G0 K0 (.ops all rest :: s) G L M') : W P Q0 N D w0 G0 K0 (.ops all (⟨none, .store t x y, ty, pos, af, none⟩ :: rest) :: s) G L M := W.of fun a w E S => by
  obtain ⟨A, X, Y, B, rfl, rfl⟩ := hm.split
  have hb := S.arr (InM.mk' A X Y B)
  obtain ⟨_, i, hi, hs⟩ := agg_spec (w := w) (tb_ag h ht)
  have hr := run_storeCells_at P b off T us 0 vs.toArray w hb (by simpa using hn) (fun v hv => by have := List.all_eq_true.1 h1 v hv; cases v <;> simp_all [one, Value.oneCell'])
  have hsz : us.length = i.size := hl.trans hs.symm
  have hR : (execOp a.eval ⟨none, .store t x y, ty, pos, af, none⟩).run P w = .ok .skip (w.setRow b (vs.take off ++ us ++ vs.drop (off + us.length)).toArray) := by
    simp only [Nat.add_zero, List.toList_toArray] at hr
    simp [execOp, E.eval hx, E.eval hy, Instr.storeAt, Instr.sureAddr, storeVar, run_sizeOf' hi, Value.cells, hr, hsz]
  show wpList P all (aft P Q0 s) (⟨none, .store t x y, ty, pos, af, none⟩ :: rest) a w
  exact op_skip rfl rfl hR (k.run a _ E (St.turn S rfl rfl rfl (by simp) (fun k hk => setRow_other w b k _ hk) ⟨_, setRow_heap w b _ _ _ _ hb, rfl⟩))
/-! ## Slices made -/
theorem w_make {n by' : Nat} {q q' : IntKind} {z : Value} [h : HasTb P tb] [i : ZR P T [z]] (hN : Nat.blt d N = true) (hx : ev L x = some (.int q (n : Int))) (hy : ev L y = some (.int q' (n : Int))) (ht : lookP tb.ap t = some (T, 1, by')) (hb : by' * n ≤ 281474976710656) (hn : n ≤ 9223372036854775807)
    (k : ∀ b, W P Q0 N D w0 G0 K0 (.ops all rest :: s) G ((d, .slice (some ⟨b, 0, none⟩) n n) :: L) ([(b, Arr T (List.replicate n z))] :: M)) : W P Q0 N D w0 G0 K0 (.ops all (⟨some d, .makeSlice t x y, ty, pos, af, none⟩ :: rest) :: s) G L M := W.of fun a w E S => by
  obtain ⟨z', hz, hv⟩ := i.h
  exact o_make1 E hN S hx hy (tb_ap h ht) hz hb hn fun b w' a' S' E' => (k b).run a' w' E' (by rw [hv] at S'; exact S')
theorem p_sliceArr {n m : Nat} {ad : Addr} [h : HasTb P tb] (hN : Nat.blt d N = true) (hx : ev L x = some (.pointer (some ad))) (ht : lookP tb.ar t = some (n, m)) (h0 : Nat.blt 0 n = true) : Stp P N D w0 G0 K0 ops G L M ⟨some d, .slice t x none none none, ty, pos, af, none⟩ d (.slice (some ad) n n) :=
  Stp.pure fun Q rest a w G2 hl2 E S k => o_sliceArr E hN hx (tb_ar h ht) h0 k
theorem p_slAB {n m : Nat} {y z : Operand} {q q' : IntKind} {i j : Int} [h : HasTb P tb] (hN : Nat.blt d N = true) (hx : ev L x = some (.pointer (some ⟨b, off, none⟩))) (hy : ev L y = some (.int q i)) (hz : ev L z = some (.int q' j)) (ht : lookP tb.ar t = some (n, m)) (hi : 0 ≤ i ∧ i ≤ j ∧ j ≤ n ∧ i < n) :
    Stp P N D w0 G0 K0 ops G L M ⟨some d, .slice t x (some y) (some z) none, ty, pos, af, none⟩ d (.slice (some ⟨b, off + i.toNat * m, none⟩) (j.toNat - i.toNat) (n - i.toNat)) :=
  Stp.pure fun Q rest a w G2 hl2 E S k => op_val rfl rfl E hN (by
    obtain ⟨e, inf, hu, hi', rfl⟩ := arr_spec (tb_ar h ht)
    obtain ⟨i, rfl⟩ := Int.eq_ofNat_of_zero_le hi.1
    obtain ⟨j, rfl⟩ := Int.eq_ofNat_of_zero_le (Int.le_trans hi.1 hi.2.1)
    have h1 : i ≤ j := by omega
    have h2 : j ≤ n := by omega
    have h3 : n ≠ i := by omega
    simp [execOp, E.eval hx, E.eval hy, E.eval hz, Instr.sliceAt, run_underlying hu, Instr.sureAddr, Instr.sliceBounds, Instr.sliceBound, run_sizeOf' hi', h1, h2, h3, Addr.add_lit, asIntOf]) k
theorem p_slA {n m : Nat} {y : Operand} {q : IntKind} {i : Int} [h : HasTb P tb] (hN : Nat.blt d N = true) (hx : ev L x = some (.pointer (some ⟨b, off, none⟩))) (hy : ev L y = some (.int q i)) (ht : lookP tb.ar t = some (n, m)) (hi : 0 ≤ i ∧ i < n) :
    Stp P N D w0 G0 K0 ops G L M ⟨some d, .slice t x (some y) none none, ty, pos, af, none⟩ d (.slice (some ⟨b, off + i.toNat * m, none⟩) (n - i.toNat) (n - i.toNat)) :=
  Stp.pure fun Q rest a w G2 hl2 E S k => op_val rfl rfl E hN (by
    obtain ⟨e, inf, hu, hi', rfl⟩ := arr_spec (tb_ar h ht)
    obtain ⟨i, rfl⟩ := Int.eq_ofNat_of_zero_le hi.1
    have h1 : i ≤ n := by omega
    have h3 : n ≠ i := by omega
    simp [execOp, E.eval hx, E.eval hy, Instr.sliceAt, run_underlying hu, Instr.sureAddr, Instr.sliceBounds, Instr.sliceBound, run_sizeOf' hi', h1, h3, Addr.add_lit, asIntOf]) k
theorem p_slB {n m : Nat} {z : Operand} {q : IntKind} {j : Int} [h : HasTb P tb] (hN : Nat.blt d N = true) (hx : ev L x = some (.pointer (some ⟨b, off, none⟩))) (hz : ev L z = some (.int q j)) (ht : lookP tb.ar t = some (n, m)) (hi : 0 ≤ j ∧ j ≤ n ∧ 0 < n) :
    Stp P N D w0 G0 K0 ops G L M ⟨some d, .slice t x none (some z) none, ty, pos, af, none⟩ d (.slice (some ⟨b, off, none⟩) j.toNat n) :=
  Stp.pure fun Q rest a w G2 hl2 E S k => op_val rfl rfl E hN (by
    obtain ⟨e, inf, hu, hi', rfl⟩ := arr_spec (tb_ar h ht)
    obtain ⟨j, rfl⟩ := Int.eq_ofNat_of_zero_le hi.1
    have h2 : j ≤ n := by omega
    have h3 : n ≠ 0 := by omega
    simp [execOp, E.eval hx, E.eval hz, Instr.sliceAt, run_underlying hu, Instr.sureAddr, Instr.sliceBounds, Instr.sliceBound, run_sizeOf' hi', h2, h3, Addr.add_lit, asIntOf]) k
end
end Go.Proofs.YtngoaapgdfohjaaGreatDoor.X

set_option linter.unusedVariables false
set_option linter.unusedSimpArgs false
namespace Go.Proofs.YtngoaapgdfohjaaGreatDoor.X
open Go
open Go.Maps (Keyed)
/-! ## The program's kinds, as values -/
abbrev vV (x : Val) : Value := .agg #[.int .i64 x.k, .int .i64 x.n, str x.s]
structure Ent where
  dom : Int
  name : Val
  real : Val deriving DecidableEq
abbrev entCells (x : Ent) : List Value := [.int .i64 x.dom, .int .i64 x.name.k, .int .i64 x.name.n, str x.name.s, .int .i64 x.real.k, .int .i64 x.real.n, str x.real.s]
abbrev vE (x : Ent) : Value := .agg #[.int .i64 x.dom, .int .i64 x.name.k, .int .i64 x.name.n, str x.name.s, .int .i64 x.real.k, .int .i64 x.real.n, str x.real.s]
def kEnt : Knd Ent where
  sz := 7
  R := fun _ x cs => cs = entCells x
  len := by rintro G x cs rfl; rfl
  le := fun _ h => h
structure Mom where
  rank : Int
  time : Int deriving DecidableEq
abbrev momCells (x : Mom) : List Value := [.int .i64 x.rank, .int .i64 x.time]
def kMom : Knd Mom where
  sz := 2
  R := fun _ x cs => cs = momCells x
  len := by rintro G x cs rfl; rfl
  le := fun _ h => h
structure Rem where
  event : Int
  note : Bs deriving DecidableEq
abbrev remCells (x : Rem) : List Value := [.int .i64 x.event, str x.note]
def kRem : Knd Rem where
  sz := 2
  R := fun _ x cs => cs = remCells x
  len := by rintro G x cs rfl; rfl
  le := fun _ h => h
abbrev E0e : Ent := ⟨0, ⟨0, 0, []⟩, ⟨0, 0, []⟩⟩
/-- Kinds whose cells tell nothing else than the element. -/
class EncK {α : Type} (K : Knd α) (enc : outParam (α → List Value)) : Prop where
  h : ∀ G x cs, K.R G x cs → cs = enc x
  r : ∀ G x, K.R G x (enc x)
instance : EncK kVal valCells := ⟨fun _ _ _ h => h, fun _ _ => rfl⟩
instance : EncK kEnt entCells := ⟨fun _ _ _ h => h, fun _ _ => rfl⟩
instance : EncK kMom momCells := ⟨fun _ _ _ h => h, fun _ _ => rfl⟩
instance : EncK kRem remCells := ⟨fun _ _ _ h => h, fun _ _ => rfl⟩
instance (q : IntKind) : EncK (Knd.int q) (fun n => [.int q n]) := ⟨fun _ _ _ h => h, fun _ _ => rfl⟩
instance : EncK Knd.s (fun n => [str n]) := ⟨fun _ _ _ h => h, fun _ _ => rfl⟩
/-- The cells of an element that isn't written. -/
theorem Rd.cells {α : Type} {K : Knd α} {enc : α → List Value} [e : EncK K enc] {G : Heap} {A : Option Addr} {xs : List α} (h : Rd K G A xs) {j : Nat} (d : α) (hj : j < xs.length) : CellsAt G (aB A) (aO A + j * K.sz) (enc (xs.getD j d)) := by
  obtain ⟨_, cs, h1, h2⟩ := h.open hj
  have e1 : xs[j] = xs.getD j d := by simp [List.getD_eq_getElem?_getD, List.getElem?_eq_getElem hj]
  rw [e1] at h1
  have := e.h _ _ _ h1
  subst this
  exact h2
theorem Rd.val {G : Heap} {A : Option Addr} {xs : List Val} (h : Rd kVal G A xs) {j : Nat} (hj : j < xs.length) : CellsAt G (aB A) (aO A + j * 3) (valCells (xs.getD j ⟨0, 0, []⟩)) := h.cells _ hj
theorem Rd.ent {G : Heap} {A : Option Addr} {xs : List Ent} (h : Rd kEnt G A xs) {j : Nat} (hj : j < xs.length) : CellsAt G (aB A) (aO A + j * 7) (entCells (xs.getD j E0e)) := h.cells _ hj
theorem ListR.encs {α : Type} {K : Knd α} {enc : α → List Value} [e : EncK K enc] {G : Heap} : ∀ {xs : List α} {cs : List Value}, ListR K G xs cs → cs.length = xs.length * K.sz → ∀ {j : Nat} (d : α) {o : Nat} {u : Value}, j < xs.length → (enc (xs.getD j d))[o]? = some u → cs[j * K.sz + o]? = some u
  | [], _, _, _, j, _, _, _, hj, _ => by simp at hj
  | x :: xs, cs, ⟨h1, h2⟩, hl, 0, d, o, u, _, hu => by
    have h3 := e.h _ _ _ h1
    have h4 : (x :: xs).getD 0 d = x := rfl
    rw [h4, ← h3, List.getElem?_take] at hu
    split at hu
    · simpa using hu
    · cases hu
  | x :: xs, cs, ⟨h1, h2⟩, hl, j + 1, d, o, u, hj, hu => by
    simp only [List.length_cons, Nat.add_mul, Nat.one_mul] at hl
    have h4 : (x :: xs).getD (j + 1) d = xs.getD j d := rfl
    rw [h4] at hu
    have := ListR.encs h2 (by rw [List.length_drop]; omega) d (by simpa using hj) hu
    rw [List.getElem?_drop] at this
    rwa [show (j + 1) * K.sz + o = K.sz + (j * K.sz + o) by rw [Nat.add_mul]; omega]
section
variable {P : Program} {Q0 : Exit → Act → World → Prop} {N : Nat} {D : List Deferred} {w0 : World} {G0 : Heap} {K0 : List Nat} {s : List Itm} {G G1 : Heap} {L L' : List (Nat × Value)} {M M' R : List Chunk} {ops all : Array Oper} {o : Oper} {d : Nat} {v : Value} {rest : List Oper}
variable {ty : TypeId} {pos : String} {af : Array Edge} {tb : Tb} {x y z : Operand} {t T b off : Nat} {Lb : List (Nat × Value)}
/-! ## Loads out of blocks that aren't written -/
theorem p_ldIx {bo j : Nat} {cs : List Value} [h : HasTb P tb] (hN : Nat.blt d N = true) (hx : ev L x = some (.pointer (some ⟨b, bo + j, none⟩))) (ht : tb.sc.elem t = true) (hC : CellsAt G1 b bo cs) (hl : LeT G1 G) (hv : cs[j]? = some v) : Stp P N D w0 G0 K0 ops G L M ⟨some d, .load t x, ty, pos, af, none⟩ d v := p_ldI hN hx ht hC hl rfl hv
theorem p_ldI0 {cs : List Value} [h : HasTb P tb] (hN : Nat.blt d N = true) (hx : ev L x = some (.pointer (some ⟨b, off, none⟩))) (ht : tb.sc.elem t = true) (hC : CellsAt G1 b off cs) (hl : LeT G1 G) (hv : cs[0]? = some v) : Stp P N D w0 G0 K0 ops G L M ⟨some d, .load t x, ty, pos, af, none⟩ d v := p_ldI (j := 0) hN hx ht hC hl rfl hv
/-- A part that is a value. -/
theorem p_ldIxV {bo j : Nat} {cs r : List Value} {a : Val} [h : HasTb P tb] (hN : Nat.blt d N = true) (hx : ev L x = some (.pointer (some ⟨b, bo + j, none⟩))) (ht : look1 tb.ag t = some 3) (hC : CellsAt G1 b bo cs) (hl : LeT G1 G) (hv : cs.drop j = .int .i64 a.k :: .int .i64 a.n :: str a.s :: r) : Stp P N D w0 G0 K0 ops G L M ⟨some d, .load t x, ty, pos, af, none⟩ d (vV a) :=
  p_ldIA (cs := [.int .i64 a.k, .int .i64 a.n, str a.s]) hN hx ht (by
    have := hC.part j 3
    rw [hv] at this
    exact this) hl rfl
/-- .. of two cells. -/
theorem p_ldIx2 {bo j : Nat} {cs r : List Value} {u1 u2 : Value} [h : HasTb P tb] (hN : Nat.blt d N = true) (hx : ev L x = some (.pointer (some ⟨b, bo + j, none⟩))) (ht : look1 tb.ag t = some 2) (hC : CellsAt G1 b bo cs) (hl : LeT G1 G) (hv : cs.drop j = u1 :: u2 :: r) : Stp P N D w0 G0 K0 ops G L M ⟨some d, .load t x, ty, pos, af, none⟩ d (.agg #[u1, u2]) :=
  p_ldIA (cs := [u1, u2]) hN hx ht (by
    have := hC.part j 2
    rw [hv] at this
    exact this) hl rfl
/-! ## Lists of one's own, read -/
theorem Own.adr {α : Type} {K : Knd α} {A : Option Addr} {c : Nat} {xs : List α} {C : Chunk} (h : X.Own K T G A c xs C) {j : Nat} (hj : j < xs.length) : A = some ⟨aB A, aO A, none⟩ ∧ aO A = 0 := by
  obtain ⟨cs, h1, h2, h3, ⟨rfl, rfl, rfl, rfl⟩ | ⟨b, rfl, h4, _⟩⟩ := h
  · simp at hj
  · exact ⟨rfl, rfl⟩
theorem p_ixO {α : Type} {K : Knd α} {A : Option Addr} {n c c0 m j e : Nat} {q : IntKind} {xs : List α} {C : Chunk} [h : HasTb P tb] (hN : Nat.blt d N = true) (hx : ev L x = some (.slice A n c)) (hy : ev L y = some (.int q (j : Int))) (ht : lookP tb.sl t = some (e, m)) (hO : X.Own K T G1 A c0 xs C) (hn : n = xs.length) (hj : j < xs.length) : Stp P N D w0 G0 K0 ops G L M ⟨some d, .indexAddr t x y, ty, pos, af, none⟩ d (.pointer (some ⟨aB A, aO A + j * m, none⟩)) :=
  Stp.pure fun Q rest a w G2 hl2 E S k => by
    obtain ⟨hA, _⟩ := hO.adr hj
    rw [hA] at hx
    exact o_ixL E hN hx hy (tb_sl h ht) (by omega) fun a' E' => k a' (by simpa using E')
theorem Own.at {α : Type} {K : Knd α} {enc : α → List Value} [e : EncK K enc] {A : Option Addr} {c : Nat} {xs : List α} {C : Chunk} {w : World} (hS : St w0 G0 K0 G w M) (hp : Pk C M R) (hO : X.Own K T G A c xs C) {j o : Nat} {u : Value} (dd : α) (hj : j < xs.length) (hu : (enc (xs.getD j dd))[o]? = some u) : w.cell? ⟨aB A, aO A + j * K.sz + o, none⟩ = some u := by
  obtain ⟨cs, h1, h2, h3, ⟨rfl, rfl, rfl, rfl⟩ | ⟨b, rfl, h4, h5, rfl⟩⟩ := hO
  · simp at hj
  · have S1 : St w0 G0 K0 G w ([(b, Row T xs.length K.sz c cs)] :: R) := hS.perm (flat_perm hp.perm).symm
    obtain ⟨ob, hb, cur, rfl, hsz, htk⟩ := S1.mem (b, Row T xs.length K.sz c cs) (by simp)
    have hc := ListR.encs h1 h2 dd hj hu
    have hlt : j * K.sz + o < xs.length * K.sz := by
      have := (List.getElem?_eq_some_iff.1 hc).1
      omega
    rw [← htk, List.getElem?_take, if_pos hlt] at hc
    show w.cell? ⟨b, 0 + j * K.sz + o, none⟩ = some u
    simp only [World.cell?, hb, Nat.zero_add]
    simpa using hc
theorem p_ldOA {α : Type} {K : Knd α} {enc : α → List Value} [e : EncK K enc] {A : Option Addr} {c m j o n : Nat} {xs : List α} {C : Chunk} {us r : List Value} (dd : α) [h : HasTb P tb] (hN : Nat.blt d N = true) (hx : ev L x = some (.pointer (some ⟨aB A, aO A + j * m + o, none⟩))) (ht : look1 tb.ag t = some n) (hO : X.Own K T G1 A c xs C) (hl : LeT G1 G) (hp : Pk C M R) (hm : m = K.sz) (hj : j < xs.length) (hu : (enc (xs.getD j dd)).drop o = us ++ r) (hn : us.length = n) : Stp P N D w0 G0 K0 ops G L M ⟨some d, .load t x, ty, pos, af, none⟩ d (.agg us.toArray) :=
  Stp.pure fun Q rest a w G2 hl2 E S k => op_val rfl rfl E hN (by
    subst hm
    have ht' := tb_ag h ht
    rw [← hn] at ht'
    have := run_loadA (P := P) (w := w) (t := t) (ad := ⟨aB A, aO A + j * K.sz + o, none⟩) (vs := us) ht' (fun i u hi => by
      rw [Addr.add_lit, Nat.add_assoc]
      refine Own.at S hp (hO.le (hl.le.trans hl2)) dd hj ?_
      rw [← List.getElem?_drop, hu, List.getElem?_append_left (List.getElem?_eq_some_iff.1 hi).1]
      exact hi)
    simp [execOp, E.eval hx, Instr.loadAt, Instr.sureAddr, this]) k
/-- A value at the head of an own list's element, or within it. -/
theorem p_ldOV0 {A : Option Addr} {c j : Nat} {xs : List Val} {C : Chunk} [h : HasTb P tb] (hN : Nat.blt d N = true) (hx : ev L x = some (.pointer (some ⟨aB A, aO A + j * 3, none⟩))) (ht : look1 tb.ag t = some 3) (hO : X.Own kVal T G1 A c xs C) (hl : LeT G1 G) (hp : Pk C M R) (hj : j < xs.length) : Stp P N D w0 G0 K0 ops G L M ⟨some d, .load t x, ty, pos, af, none⟩ d (vV (xs.getD j ⟨0, 0, []⟩)) := p_ldOA (o := 0) (r := []) (us := valCells _) ⟨0, 0, []⟩ hN hx ht hO hl hp rfl hj rfl rfl
theorem p_ldOE1 {A : Option Addr} {c j : Nat} {xs : List Ent} {C : Chunk} [h : HasTb P tb] (hN : Nat.blt d N = true) (hx : ev L x = some (.pointer (some ⟨aB A, aO A + j * 7 + 1, none⟩))) (ht : look1 tb.ag t = some 3) (hO : X.Own kEnt T G1 A c xs C) (hl : LeT G1 G) (hp : Pk C M R) (hj : j < xs.length) : Stp P N D w0 G0 K0 ops G L M ⟨some d, .load t x, ty, pos, af, none⟩ d (vV (xs.getD j E0e).name) := p_ldOA (o := 1) (r := valCells (xs.getD j E0e).real) (us := valCells _) E0e hN hx ht hO hl hp rfl hj rfl rfl
/-! ## Structs compared -/
class EqG (P : Program) (t : Nat) (ls : outParam (List Lf)) : Prop where
  h : flatG P t = some ls
theorem beq_dec (a c : Bs) : (a == c) = decide (a = c) := by rw [Bool.eq_iff_iff]; simp
theorem eqVs_val (a c : Val) : eqVs (valCells a) (valCells c) = decide (a = c) := by
  obtain ⟨k, n, s⟩ := a
  obtain ⟨k', n', s'⟩ := c
  simp only [eqVs, eqV, Val.mk.injEq, Bool.and_true]
  rw [Bool.decide_and, Bool.decide_and]
  congr 2
  exact beq_dec _ _
theorem eqVs_ent (a c : Ent) : eqVs (entCells a) (entCells c) = decide (a = c) := by
  obtain ⟨d, ⟨k, n, s⟩, ⟨k2, n2, s2⟩⟩ := a
  obtain ⟨d', ⟨k', n', s'⟩, ⟨k2', n2', s2'⟩⟩ := c
  simp only [eqVs, eqV, Ent.mk.injEq, Val.mk.injEq, Bool.and_true]
  have h1 := beq_dec s s'
  have h2 := beq_dec s2 s2'
  simp only [Bool.decide_and, Bool.and_assoc]
  show (_ && (_ && (_ && ((s == s') && (_ && (_ && (s2 == s2'))))))) = _
  rw [h1, h2]
theorem p_eqV {a c : Val} {t t' : Nat} [q : EqG P t [.int .i64, .int .i64, .str]] (hN : Nat.blt d N = true) (hx : ev L x = some (vV a)) (hy : ev L y = some (vV c)) : Stp P N D w0 G0 K0 ops G L M ⟨some d, .binOp .eql t x y t', ty, pos, af, none⟩ d (.bool (decide (a = c))) :=
  Stp.pure fun Q rest a w G2 hl2 E S k => o_eqG E hN hx hy q.h rfl (eqVs_val _ _) k
theorem p_neV {a c : Val} {t t' : Nat} [q : EqG P t [.int .i64, .int .i64, .str]] (hN : Nat.blt d N = true) (hx : ev L x = some (vV a)) (hy : ev L y = some (vV c)) : Stp P N D w0 G0 K0 ops G L M ⟨some d, .binOp .neq t x y t', ty, pos, af, none⟩ d (.bool (!decide (a = c))) :=
  Stp.pure fun Q rest a w G2 hl2 E S k => o_neG E hN hx hy q.h rfl (eqVs_val _ _) k
theorem p_eqE {a c : Ent} {t t' : Nat} [q : EqG P t [.int .i64, .int .i64, .int .i64, .str, .int .i64, .int .i64, .str]] (hN : Nat.blt d N = true) (hx : ev L x = some (vE a)) (hy : ev L y = some (vE c)) : Stp P N D w0 G0 K0 ops G L M ⟨some d, .binOp .eql t x y t', ty, pos, af, none⟩ d (.bool (decide (a = c))) :=
  Stp.pure fun Q rest a w G2 hl2 E S k => o_eqG E hN hx hy q.h rfl (eqVs_ent _ _) k
theorem p_neE {a c : Ent} {t t' : Nat} [q : EqG P t [.int .i64, .int .i64, .int .i64, .str, .int .i64, .int .i64, .str]] (hN : Nat.blt d N = true) (hx : ev L x = some (vE a)) (hy : ev L y = some (vE c)) : Stp P N D w0 G0 K0 ops G L M ⟨some d, .binOp .neq t x y t', ty, pos, af, none⟩ d (.bool (!decide (a = c))) :=
  Stp.pure fun Q rest a w G2 hl2 E S k => o_neG E hN hx hy q.h rfl (eqVs_ent _ _) k
/-! ## Numbers divided -/
theorem p_quo8 {t t' : TypeId} {i j : Int} (hN : Nat.blt d N = true) (hx : ev L x = some (.int .u8 i)) (hy : ev L y = some (.int .u8 j)) (h : 0 ≤ i ∧ i ≤ 255 ∧ 0 < j) : Stp P N D w0 G0 K0 ops G L M ⟨some d, .binOp .quo t x y t', ty, pos, af, none⟩ d (.int .u8 (i / j)) := p_ar hN hx hy (.inr (.inr (.inr (.inr ⟨rfl, by omega, by
  rw [Int.tdiv_eq_ediv_of_nonneg h.1]
  have := Int.ediv_le_self j h.1
  have := Int.ediv_nonneg h.1 (by omega : 0 ≤ j)
  exact wrap_u8 (by omega)⟩))))
theorem p_quo64 {t t' : TypeId} {i j : Int} (hN : Nat.blt d N = true) (hx : ev L x = some (.int .u64 i)) (hy : ev L y = some (.int .u64 j)) (h : 0 ≤ i ∧ i ≤ 18446744073709551615 ∧ 0 < j) : Stp P N D w0 G0 K0 ops G L M ⟨some d, .binOp .quo t x y t', ty, pos, af, none⟩ d (.int .u64 (i / j)) := p_ar hN hx hy (.inr (.inr (.inr (.inr ⟨rfl, by omega, by
  rw [Int.tdiv_eq_ediv_of_nonneg h.1]
  have := Int.ediv_le_self j h.1
  have := Int.ediv_nonneg h.1 (by omega : 0 ≤ j)
  exact wrap_u64 (by omega)⟩))))
theorem p_quo {t t' : TypeId} {i j : Int} (hN : Nat.blt d N = true) (hx : ev L x = some (.int .i64 i)) (hy : ev L y = some (.int .i64 j)) (h : 0 ≤ i ∧ i ≤ 9223372036854775807 ∧ 0 < j) : Stp P N D w0 G0 K0 ops G L M ⟨some d, .binOp .quo t x y t', ty, pos, af, none⟩ d (.int .i64 (i / j)) := p_ar hN hx hy (.inr (.inr (.inr (.inr ⟨rfl, by omega, by
  rw [Int.tdiv_eq_ediv_of_nonneg h.1]
  have := Int.ediv_le_self j h.1
  have := Int.ediv_nonneg h.1 (by omega : 0 ≤ j)
  exact wrap_i64 (by omega)⟩))))
theorem p_remU {t t' : TypeId} {x y : Operand} {n j : Int} (hN : Nat.blt d N = true) (hx : ev L x = some (.int .u64 (IntKind.u64.wrap n))) (hy : ev L y = some (.int .u64 j)) (h : 0 < j) : Stp P N D w0 G0 K0 ops G L M ⟨some d, .binOp .rem t x y t', ty, pos, af, none⟩ d (.int .u64 (IntKind.u64.wrap n % j)) := p_rem hN hx hy ⟨u64_nn _, h⟩
/-! ## Texts cut -/
theorem p_sliceS {r : Bs} {q q' : IntKind} {lo hi : Int} [h : HasTb P tb] (hN : Nat.blt d N = true) (hx : ev L x = some (str r)) (hy : ev L y = some (.int q lo)) (hz : ev L z = some (.int q' hi)) (ht : tb.st.elem t = true) (hb : 0 ≤ lo ∧ lo ≤ hi ∧ hi ≤ r.length) : Stp P N D w0 G0 K0 ops G L M ⟨some d, .slice t x (some y) (some z) none, ty, pos, af, none⟩ d (str (sub r lo hi)) := Stp.pure fun Q rest a w G2 hl2 E S k => o_sliceS E hN hx hy hz (tb_st h ht) hb k
theorem p_sliceLo {r : Bs} {q : IntKind} {lo : Int} [h : HasTb P tb] (hN : Nat.blt d N = true) (hx : ev L x = some (str r)) (hy : ev L y = some (.int q lo)) (ht : tb.st.elem t = true) (hb : 0 ≤ lo ∧ lo ≤ r.length) : Stp P N D w0 G0 K0 ops G L M ⟨some d, .slice t x (some y) none none, ty, pos, af, none⟩ d (str (r.drop lo.toNat)) := Stp.pure fun Q rest a w G2 hl2 E S k => o_sliceLo E hN hx hy (tb_st h ht) hb k
theorem p_sliceHi {r : Bs} {q : IntKind} {hi : Int} [h : HasTb P tb] (hN : Nat.blt d N = true) (hx : ev L x = some (str r)) (hz : ev L z = some (.int q hi)) (ht : tb.st.elem t = true) (hb : 0 ≤ hi ∧ hi ≤ r.length) : Stp P N D w0 G0 K0 ops G L M ⟨some d, .slice t x none (some z) none, ty, pos, af, none⟩ d (str (r.take hi.toNat)) := Stp.pure fun Q rest a w G2 hl2 E S k => o_sliceHi E hN hx hz (tb_st h ht) hb k
/-! ## Rows of structs, told whole: parts stored -/
inductive SetL : List Value → Nat → Value → List Value → Prop where
  | here {u v : Value} {r : List Value} : SetL (u :: r) 0 v (v :: r)
  | there {u v : Value} {r r' : List Value} {n : Nat} (h : SetL r n v r') : SetL (u :: r) (n + 1) v (u :: r')
theorem SetL.eq {vs vs' : List Value} {n : Nat} {v : Value} (h : SetL vs n v vs') : vs' = vs.set n v ∧ n < vs.length := by
  induction h with
  | here => simp
  | there _ ih => simp [← ih.1, ih.2]
inductive SetN : List Value → Nat → List Value → List Value → Prop where
  | nil {vs : List Value} {n : Nat} : SetN vs n [] vs
  | cons {vs vs1 vs2 us : List Value} {n : Nat} {u : Value} (h : SetL vs n u vs1) (k : SetN vs1 (n + 1) us vs2) : SetN vs n (u :: us) vs2
theorem SetN.eq {vs vs' us : List Value} {n : Nat} (h : SetN vs n us vs') : n + us.length ≤ vs.length ∨ us = [] := by
  induction h with
  | nil => exact .inr rfl
  | cons h k ih =>
    left
    obtain ⟨e, hl⟩ := h.eq
    rcases ih with h1 | rfl
    · rw [e, List.length_set] at h1; simp only [List.length_cons]; omega
    · simp; omega
theorem SetN.val {vs vs' us : List Value} {n : Nat} (h : SetN vs n us vs') (h0 : us ≠ []) : vs' = vs.take n ++ us ++ vs.drop (n + us.length) := by
  induction h with
  | nil => exact absurd rfl h0
  | @cons vs vs1 vs2 us n u h k ih =>
    obtain ⟨e, hl⟩ := h.eq
    cases us with
    | nil =>
      cases k
      rw [e]
      simp only [List.length_cons, List.length_nil, Nat.zero_add]
      rw [List.set_eq_take_append_cons_drop, if_pos hl]
      simp
    | cons u2 us =>
      rw [ih (by simp), e]
      have h1 : (vs.set n u).take (n + 1) = vs.take n ++ [u] := by
        rw [List.take_set, List.take_add_one, List.getElem?_eq_getElem hl, Option.toList_some, List.set_append_right _ _ (by rw [List.length_take]; omega)]
        simp [List.length_take, Nat.min_eq_left (Nat.le_of_lt hl)]
      rw [h1, List.drop_set_of_lt (by simp only [List.length_cons]; omega)]
      simp only [List.append_assoc, List.cons_append, List.nil_append, List.length_cons]
      rw [show n + 1 + (us.length + 1) = n + (us.length + 1 + 1) by omega]
theorem w_stRx {vs vs' : List Value} {M' : List Chunk} [h : HasTb P tb] (hx : ev L x = some (.pointer (some ⟨b, off, none⟩))) (hy : ev L y = some v) (h1 : one v = true) (ht : tb.sc.elem t = true) (hm : RepM b (Arr T vs) (Arr T vs') M M') (hu : SetL vs off v vs')
    (k : W P Q0 N D w0 G0 K0 (.ops all rest :: s) G L M') : W P Q0 N D w0 G0 K0 (.ops all (⟨none, .store t x y, ty, pos, af, none⟩ :: rest) :: s) G L M := by
  obtain ⟨e, hl⟩ := hu.eq
  subst e
  exact w_stR hx hy h1 ht hm hl k
theorem w_stRy {n : Nat} {us vs vs' : List Value} {M' : List Chunk} [h : HasTb P tb] (hx : ev L x = some (.pointer (some ⟨b, off, none⟩))) (hy : ev L y = some (.agg us.toArray)) (ht : look1 tb.ag t = some n) (hm : RepM b (Arr T vs) (Arr T vs') M M') (h1 : us.all one = true) (hl : us.length = n) (h0 : us ≠ []) (hu : SetN vs off us vs')
    (k : W P Q0 N D w0 G0 K0 (.ops all rest :: s) G L M') : W P Q0 N D w0 G0 K0 (.ops all (⟨none, .store t x y, ty, pos, af, none⟩ :: rest) :: s) G L M := by
  rcases hu.eq with h2 | h2
  · have e := hu.val h0
    subst e
    exact w_stRP hx hy ht hm h1 hl h2 k
  · exact absurd h2 h0
/-- A cell of a row that is told cell by cell. -/
inductive GetN : List Value → Nat → Value → Prop where
  | here {v : Value} {r : List Value} : GetN (v :: r) 0 v
  | there {u v : Value} {r : List Value} {n : Nat} (h : GetN r n v) : GetN (u :: r) (n + 1) v
theorem GetN.eq {vs : List Value} {n : Nat} {v : Value} (h : GetN vs n v) : vs[n]? = some v := by
  induction h with
  | here => rfl
  | there _ ih => simpa using ih
theorem p_ldRg {vs : List Value} [h : HasTb P tb] (hN : Nat.blt d N = true) (hx : ev L x = some (.pointer (some ⟨b, off, none⟩))) (ht : tb.sc.elem t = true) (hm : InM M b (Arr T vs)) (hg : GetN vs off v) : Stp P N D w0 G0 K0 ops G L M ⟨some d, .load t x, ty, pos, af, none⟩ d v := p_ldR hN hx ht hm hg.eq
/-- A part of a row that is told cell by cell. -/
inductive TakN : List Value → Nat → List Value → Prop where
  | nil {vs : List Value} : TakN vs 0 []
  | cons {u : Value} {r us : List Value} {n : Nat} (h : TakN r n us) : TakN (u :: r) (n + 1) (u :: us)
inductive DrpN : List Value → Nat → List Value → Prop where
  | zero {vs : List Value} : DrpN vs 0 vs
  | succ {u : Value} {r vs : List Value} {n : Nat} (h : DrpN r n vs) : DrpN (u :: r) (n + 1) vs
theorem TakN.eq {vs us : List Value} {n : Nat} (h : TakN vs n us) : vs.take n = us ∧ us.length = n := by
  induction h with
  | nil => simp
  | cons _ ih => simp [ih.1, ih.2]
theorem DrpN.eq {vs us : List Value} {n : Nat} (h : DrpN vs n us) : vs.drop n = us := by
  induction h with
  | zero => simp
  | succ _ ih => simpa using ih
theorem p_ldRQ {n : Nat} {vs ws us : List Value} [h : HasTb P tb] (hN : Nat.blt d N = true) (hx : ev L x = some (.pointer (some ⟨b, off, none⟩))) (ht : look1 tb.ag t = some n) (hm : InM M b (Arr T vs)) (hd : DrpN vs off ws) (hk : TakN ws n us) : Stp P N D w0 G0 K0 ops G L M ⟨some d, .load t x, ty, pos, af, none⟩ d (.agg us.toArray) :=
  p_ldRP hN hx ht hm (by rw [hd.eq]; exact hk.eq.1) hk.eq.2
/-- 'index' of an array of structs that is a value. -/
class IxA (P : Program) (t : Nat) (n m : outParam Nat) : Prop where
  h : ∃ e, arrOf P t = some (n, m) ∧ P.underlying t = some (.array n e) ∧ aggSz P e = some m
theorem p_ixVA {n m : Nat} {cs : Array Value} {us : List Value} {q : IntKind} {i : Int} [c : IxA P t n m] (hN : Nat.blt d N = true) (hx : ev L x = some (.agg cs)) (hy : ev L y = some (.int q i)) (hi : 0 ≤ i ∧ i < n) (hv : lks (enum 0 cs.toList) (i.toNat * m) m = some us) : Stp P N D w0 G0 K0 ops G L M ⟨some d, .index t x y, ty, pos, af, none⟩ d (.agg us.toArray) :=
  Stp.pure fun Q rest a w G2 hl2 E S k => by
    obtain ⟨e, h1, h2, h3⟩ := c.h
    exact o_ixV E hN hx hy h1 h2 hi hv (.inr ⟨h3, rfl⟩) k
/-! ## Maps -/
class VM (P : Program) (t : Nat) (k : outParam Nat) : Prop where
  K : Keyed P k
  ht : ∃ e, P.underlying t = some (.map k e) ∧ zeroIs P e (.int .i64 0)
  hk : isValKey P k = true
class DM (P : Program) (t : Nat) (k : outParam Nat) : Prop where
  K : Keyed P k
  ht : ∃ e, P.underlying t = some (.map k e) ∧ zeroIs P e (.int .i64 0)
  hk : isDValKey P k = true
theorem w_mkV {k : Nat} [i : VM P t k] (hN : Nat.blt d N = true) (kk : ∀ B, W P Q0 N D w0 G0 K0 (.ops all rest :: s) G ((d, .map (some B)) :: L) ([(B, MapF P k kvV vvI fun _ => none)] :: M)) : W P Q0 N D w0 G0 K0 (.ops all (⟨some d, .makeMap t none, ty, pos, af, none⟩ :: rest) :: s) G L M :=
  W.of fun a w E S => o_makeMap k kvV vvI E hN S fun B w' a' S' E' => (kk B).run a' w' E' S'
theorem w_mkD {k : Nat} [i : DM P t k] (hN : Nat.blt d N = true) (kk : ∀ B, W P Q0 N D w0 G0 K0 (.ops all rest :: s) G ((d, .map (some B)) :: L) ([(B, MapF P k kvD vvI fun _ => none)] :: M)) : W P Q0 N D w0 G0 K0 (.ops all (⟨some d, .makeMap t none, ty, pos, af, none⟩ :: rest) :: s) G L M :=
  W.of fun a w E S => o_makeMap k kvD vvI E hN S fun B w' a' S' E' => (kk B).run a' w' E' S'
theorem p_lookV {k : Nat} [i : VM P t k] {f : Val → Option Int} {m : Operand} {c : Val} (hN : Nat.blt d N = true) (h1 : ev L m = some (.map (some b))) (h2 : ev L x = some (vV c)) (hm : InM M b (MapF P k kvV vvI f)) (hw : c.Wf) : Stp P N D w0 G0 K0 ops G L M ⟨some d, .lookup t m x true, ty, pos, af, none⟩ d (.tuple #[.int .i64 ((f c).getD 0), .bool (f c).isSome]) :=
  Stp.pure fun Q rest a w G2 hl2 E S k => by
    obtain ⟨e, h3, h4⟩ := i.ht
    exact o_lookOkI i.K h3 h4 kvV_inj E hN S hm h1 h2 rfl (key_val i.hk hw) k
theorem p_look1V {k : Nat} [i : VM P t k] {f : Val → Option Int} {m : Operand} {c : Val} (hN : Nat.blt d N = true) (h1 : ev L m = some (.map (some b))) (h2 : ev L x = some (vV c)) (hm : InM M b (MapF P k kvV vvI f)) (hw : c.Wf) : Stp P N D w0 G0 K0 ops G L M ⟨some d, .lookup t m x false, ty, pos, af, none⟩ d (.int .i64 ((f c).getD 0)) :=
  Stp.pure fun Q rest a w G2 hl2 E S k => by
    obtain ⟨e, h3, h4⟩ := i.ht
    exact o_lookI i.K h3 h4 kvV_inj E hN S hm h1 h2 rfl (key_val i.hk hw) k
theorem p_lookD {k : Nat} [i : DM P t k] {f : DVal → Option Int} {m : Operand} {c : DVal} (hN : Nat.blt d N = true) (h1 : ev L m = some (.map (some b))) (h2 : ev L x = some (kvD c)) (hm : InM M b (MapF P k kvD vvI f)) (hd : I64 c.d) (hw : c.v.Wf) : Stp P N D w0 G0 K0 ops G L M ⟨some d, .lookup t m x false, ty, pos, af, none⟩ d (.int .i64 ((f c).getD 0)) :=
  Stp.pure fun Q rest a w G2 hl2 E S k => by
    obtain ⟨e, h3, h4⟩ := i.ht
    exact o_lookI i.K h3 h4 kvD_inj E hN S hm h1 h2 rfl (key_dval i.hk hd hw) k
end
end Go.Proofs.YtngoaapgdfohjaaGreatDoor.X

set_option linter.unusedVariables false
set_option linter.unusedSimpArgs false
namespace Go.Proofs.YtngoaapgdfohjaaGreatDoor.X
open Go
section
variable {P : Program} {Q0 : Exit → Act → World → Prop} {N : Nat} {D : List Deferred} {w0 : World} {G0 : Heap} {K0 : List Nat} {s : List Itm} {G : Heap} {L L' : List (Nat × Value)} {M M' : List Chunk} {ops all : Array Oper} {o : Oper} {d : Nat} {v : Value} {rest : List Oper}
variable {ty : TypeId} {pos : String} {af : Array Edge}
theorem p_pickT {c x y : Operand} {b : Bool} (hN : Nat.blt d N = true) (hc : ev L c = some (.bool b)) (hb : b = true) (hx : ev L x = some v) : Stp P N D w0 G0 K0 ops G L M ⟨some d, .pick c x y, ty, pos, af, none⟩ d v := Stp.pure fun Q rest a w G2 hl2 E S k => o_pick_t E hN hc hb hx k
theorem p_pickF {c x y : Operand} {b : Bool} (hN : Nat.blt d N = true) (hc : ev L c = some (.bool b)) (hb : b = false) (hy : ev L y = some v) : Stp P N D w0 G0 K0 ops G L M ⟨some d, .pick c x y, ty, pos, af, none⟩ d v := Stp.pure fun Q rest a w G2 hl2 E S k => o_pick_f E hN hc hb hy k
/-! ## Ways -/
theorem w_sp (t : Nat) {b : Bool} (hb : lk L t = some (.bool b)) (h1 : b = true → W P Q0 N D w0 G0 K0 s G L M) (h2 : b = false → W P Q0 N D w0 G0 K0 s G L M) : W P Q0 N D w0 G0 K0 s G L M := by
  cases b with
  | true => exact h1 rfl
  | false => exact h2 rfl
def headTo (d : Nat) : List Oper → List Oper
  | [] => []
  | o :: r => match o.dst with
    | some e => match Nat.beq e d with
      | true => [o]
      | false => o :: headTo d r
    | none => o :: headTo d r
def tailOf (d : Nat) : List Oper → List Oper
  | [] => []
  | o :: r => match o.dst with
    | some e => match Nat.beq e d with
      | true => r
      | false => tailOf d r
    | none => tailOf d r
theorem head_tail (d : Nat) : ∀ l : List Oper, headTo d l ++ tailOf d l = l
  | [] => rfl
  | o :: r => by
    simp only [headTo, tailOf]
    split
    · split
      · rfl
      · rw [List.cons_append, head_tail d r]
    · rw [List.cons_append, head_tail d r]
theorem w_take (n : Nat) {l : List Oper} {L2 : List (Nat × Value)} (h1 : W P Q0 N D w0 G0 K0 (.ops all (headTo n l) :: .cut (At N D w0 G0 K0 G L2 M) :: s) G L M) (k : W P Q0 N D w0 G0 K0 (.ops all (tailOf n l) :: s) G L2 M) : W P Q0 N D w0 G0 K0 (.ops all l :: s) G L M := W.of fun a w E S => by
  show wpList P all (aft P Q0 s) l a w
  have h := wpList_app (l1 := headTo n l) (l2 := tailOf n l) (R := At N D w0 G0 K0 G L2 M) (h1.run a w E S) (fun a w h => k.run a w h.1 h.2)
  rwa [head_tail] at h
/-- 'a || b', up to the slot `d`; `t`: a's slot. -/
theorem w_or (d t : Nat) {l : List Oper} {b y : Bool} (hb : lk L t = some (.bool b)) (h1 : b = true → W P Q0 N D w0 G0 K0 (.ops all (headTo d l) :: .cut (At N D w0 G0 K0 G ((d, .bool true) :: L) M) :: s) G L M)
    (h2 : b = false → W P Q0 N D w0 G0 K0 (.ops all (headTo d l) :: .cut (At N D w0 G0 K0 G ((d, .bool y) :: L) M) :: s) G L M) (k : W P Q0 N D w0 G0 K0 (.ops all (tailOf d l) :: s) G ((d, .bool (b || y)) :: L) M) : W P Q0 N D w0 G0 K0 (.ops all l :: s) G L M := by
  cases b with
  | true => exact w_take d (h1 rfl) k
  | false => exact w_take d (h2 rfl) k
theorem w_and (d t : Nat) {l : List Oper} {b y : Bool} (hb : lk L t = some (.bool b)) (h1 : b = true → W P Q0 N D w0 G0 K0 (.ops all (headTo d l) :: .cut (At N D w0 G0 K0 G ((d, .bool y) :: L) M) :: s) G L M)
    (h2 : b = false → W P Q0 N D w0 G0 K0 (.ops all (headTo d l) :: .cut (At N D w0 G0 K0 G ((d, .bool false) :: L) M) :: s) G L M) (k : W P Q0 N D w0 G0 K0 (.ops all (tailOf d l) :: s) G ((d, .bool (b && y)) :: L) M) : W P Q0 N D w0 G0 K0 (.ops all l :: s) G L M := by
  cases b with
  | true => exact w_take d (h1 rfl) k
  | false => exact w_take d (h2 rfl) k
theorem DR.mono {Kp Kq : List (Nat × Value) → Prop} (h : ∀ L, Kp L → Kq L) {l : List Oper} {L : List (Nat × Value)} (k : DR P N D w0 G0 K0 ops G M Kp l L) : DR P N D w0 G0 K0 ops G M Kq l L := by
  induction k with
  | nil hk => exact .nil (h _ hk)
  | cons hs _ ih => exact .cons hs ih
theorem dr_or (t : Nat) {l : List Oper} {b y : Bool} (hb : lk L t = some (.bool b)) (h1 : b = true → DR P N D w0 G0 K0 ops G M (KB d true) l L) (h2 : b = false → DR P N D w0 G0 K0 ops G M (KB d y) l L) : DR P N D w0 G0 K0 ops G M (KB d (b || y)) l L := by
  cases b with
  | true => exact h1 rfl
  | false => exact h2 rfl
class Mix (P : Program) : Prop where
  h : P.follows .mixedOrders = true
/-- A region that draws, walked to its end. -/
theorem w_d {id : Nat} {l : List Oper} [m : Mix P] (hb : dOk l = true) (h : DR P N D w0 G0 K0 l.toArray G M (fun L' => W P Q0 N D w0 G0 K0 s G L' M) l L) (hf : freshOk l L [] = true := by exact rfl) : W P Q0 N D w0 G0 K0 (.co (.region id l.toArray true) :: s) G L M := w_dr m.h hb hf h
theorem w_dt (n : Nat) {id : Nat} {l : List Oper} [m : Mix P] (hb : (backOk l.toArray && (readsOk (l.take n) l && seqB l n)) = true) (h : DR P N D w0 G0 K0 l.toArray G M (fun L' => W P Q0 N D w0 G0 K0 (.ops l.toArray (l.drop n) :: s) G L' M) (l.take n) L) (hf : freshF (l.take n) L [] = true := by exact rfl) : W P Q0 N D w0 G0 K0 (.co (.region id l.toArray true) :: s) G L M := w_drt n m.h hb hf h
theorem w_dB (d : Nat) {id : Nat} {l : List Oper} {y : Bool} [m : Mix P] (hb : dOk l = true) (h : DR P N D w0 G0 K0 l.toArray G M (KB d y) l L) (k : W P Q0 N D w0 G0 K0 s G ((d, .bool y) :: L) M) (hf : freshOk l L [] = true := by exact rfl) : W P Q0 N D w0 G0 K0 (.co (.region id l.toArray true) :: s) G L M := by
  have hfr : ∀ (rest : List Oper) (Lk : List (Nat × Value)), (∀ o ∈ rest, o ∈ l) → (∀ t u, lk L t = some u → lk Lk t = some u) → DR P N D w0 G0 K0 l.toArray G M (KB d y) rest Lk → DR P N D w0 G0 K0 l.toArray G M (fun L' => W P Q0 N D w0 G0 K0 s G L' M) rest Lk := by
    intro rest
    induction rest with
    | nil =>
      intro Lk _ hs h
      cases h with
      | nil hk =>
        refine .nil (W.of fun a w E S => k.run a w ⟨E.size, E.defers, fun t u ht => ?_⟩ S)
        rcases lk_cons ht with ⟨rfl, rfl⟩ | ⟨_, ht⟩
        · exact E.get _ _ hk
        · exact E.get _ _ (hs t u ht)
    | cons o rest ih =>
      intro Lk hm hs h
      cases h with
      | @cons _ _ _ d' v hst hk =>
        refine .cons hst (ih _ (fun o ho => hm o (List.mem_cons_of_mem _ ho)) (fun t u ht => ?_) hk)
        obtain ⟨f1, _⟩ := freshOk_spec l L [] hf
        obtain ⟨i, hi⟩ := List.mem_iff_getElem?.1 (hm o List.mem_cons_self)
        obtain ⟨d2, e1, e2, _⟩ := f1 i o hi
        have : d2 = d' := by rw [hst.dst] at e1; exact (Option.some.inj e1).symm
        subst this
        have hne : d2 ≠ t := fun e => by subst e; rw [e2] at ht; cases ht
        have hb : Nat.beq d2 t = false := by
          cases hq : Nat.beq d2 t with
          | false => rfl
          | true => exact absurd (Nat.eq_of_beq_eq_true hq) hne
        simp only [lk, hb]; exact hs t u ht
  exact w_dr m.h hb hf (hfr l L (fun _ h => h) (fun _ _ h => h) h)
/-! ## Scripts -/
structure Hold (q : Prop) : Prop where
  h : q
/-- As far as plain operations go. -/
theorem go {p q : Prop} (k : q) (h : Hold q → p := by (intro k; (repeat (first | apply w_nil | apply w_seq | apply w_reg | apply w_skip | apply w_block | apply w_blk | (apply w_exit; exact rfl) | apply w_label | (apply w_stp; (focus (first | (first | (apply p_pop; exact rfl; exact rfl) | (apply p_ld; exact rfl; exact rfl; exact rfl; (focus ((repeat (first | exact .here .here | exact .here (.there .here) | exact .here (.there (.there .here)) | apply InM.there)); done)); exact rfl) | (apply p_ldA; exact rfl; exact rfl; exact rfl; (focus ((repeat (first | exact .here .here | exact .here (.there .here) | exact .here (.there (.there .here)) | apply InM.there)); done)); exact rfl) | (apply p_ldRi; exact rfl; exact rfl; exact rfl; (focus ((repeat (first | exact .here .here | exact .here (.there .here) | exact .here (.there (.there .here)) | apply InM.there)); done)); omega) | (apply p_ldRx; exact rfl; exact rfl; exact rfl; (focus ((repeat (first | exact .here .here | exact .here (.there .here) | exact .here (.there (.there .here)) | apply InM.there)); done)); omega) | (apply p_ldRA; exact rfl; exact rfl; exact rfl; (focus ((repeat (first | exact .here .here | exact .here (.there .here) | exact .here (.there (.there .here)) | apply InM.there)); done)); (first | (simp only [List.length_map, List.length_replicate, List.length_set, List.length_append, List.length_cons, List.length_nil]; first | done | omega) | omega)) | (apply p_ldRg; exact rfl; exact rfl; exact rfl; (focus ((repeat (first | exact .here .here | exact .here (.there .here) | exact .here (.there (.there .here)) | apply InM.there)); done)); (focus ((repeat (first | exact GetN.here | apply GetN.there)); done))) | (apply p_ldRQ; exact rfl; exact rfl; exact rfl; (focus ((repeat (first | exact .here .here | exact .here (.there .here) | exact .here (.there (.there .here)) | apply InM.there)); done)); (focus ((repeat (first | exact DrpN.zero | apply DrpN.succ)); done)); (focus ((repeat (first | exact TakN.nil | apply TakN.cons)); done))) | (apply p_ldG; exact rfl; exact rfl; exact rfl; (focus with_reducible assumption); (focus infer_instance); omega) | (apply p_ldKi; exact rfl; exact rfl; exact rfl; (focus with_reducible assumption); (focus infer_instance); omega) | (apply p_ldKb; exact rfl; exact rfl; exact rfl; (focus with_reducible assumption); (focus infer_instance); omega) | (apply p_ldKs; exact rfl; exact rfl; exact rfl; (focus with_reducible assumption); (focus infer_instance); omega) | (apply p_ldIx; exact rfl; exact rfl; exact rfl; (focus with_reducible assumption); (focus infer_instance); exact rfl) | (apply p_ldI0; exact rfl; exact rfl; exact rfl; (focus with_reducible assumption); (focus infer_instance); exact rfl) | (apply p_ldIA; exact rfl; exact rfl; exact rfl; (focus with_reducible assumption); (focus infer_instance); exact rfl) | (apply p_ldIxV; exact rfl; exact rfl; exact rfl; (focus with_reducible assumption); (focus infer_instance); exact rfl) | (apply p_ldIx2; exact rfl; exact rfl; exact rfl; (focus with_reducible assumption); (focus infer_instance); exact rfl) | (apply p_ldOV0; exact rfl; exact rfl; exact rfl; (focus with_reducible assumption); (focus infer_instance); (focus ((repeat (first | exact Pk.here | apply Pk.there)); done)); omega) | (apply p_ldOE1; exact rfl; exact rfl; exact rfl; (focus with_reducible assumption); (focus infer_instance); (focus ((repeat (first | exact Pk.here | apply Pk.there)); done)); omega) | (apply p_ixN; exact rfl; exact rfl; exact rfl; exact rfl; (focus with_reducible assumption); exact rfl; omega) | (apply p_ixI; exact rfl; exact rfl; exact rfl; exact rfl; (focus with_reducible assumption); exact rfl; omega) | (apply p_ixO; exact rfl; exact rfl; exact rfl; exact rfl; (focus with_reducible assumption); exact rfl; omega) | (apply p_ixL; exact rfl; exact rfl; exact rfl; exact rfl; omega) | (apply p_ixLi; exact rfl; exact rfl; exact rfl; exact rfl; omega) | (apply p_ixA; exact rfl; exact rfl; exact rfl; exact rfl; omega) | (apply p_ixAi; exact rfl; exact rfl; exact rfl; exact rfl; omega) | (apply p_lenS; exact rfl; exact rfl; exact rfl) | (apply p_eqS; exact rfl; exact rfl; exact rfl) | (apply p_neS; exact rfl; exact rfl; exact rfl) | (apply p_add; exact rfl; exact rfl; exact rfl; omega) | (apply p_sub; exact rfl; exact rfl; exact rfl; omega) | (apply p_mul; exact rfl; exact rfl; exact rfl; omega) | (apply p_add64; exact rfl; exact rfl; exact rfl; omega) | (apply p_sub64; exact rfl; exact rfl; exact rfl; omega) | (apply p_mul64; exact rfl; exact rfl; exact rfl; omega) | (apply p_addQ; exact rfl; exact rfl; exact rfl) | (apply p_subQ; exact rfl; exact rfl; exact rfl) | (apply p_mulQ; exact rfl; exact rfl; exact rfl) | (apply p_rem; exact rfl; exact rfl; exact rfl; omega) | (apply p_remU; exact rfl; exact rfl; exact rfl; decide) | (apply p_quo8; exact rfl; exact rfl; exact rfl; omega) | (apply p_quo64; exact rfl; exact rfl; exact rfl; omega) | (apply p_quo; exact rfl; exact rfl; exact rfl; omega) | (apply p_eqV; exact rfl; exact rfl; exact rfl) | (apply p_neV; exact rfl; exact rfl; exact rfl) | (apply p_eqE; exact rfl; exact rfl; exact rfl) | (apply p_neE; exact rfl; exact rfl; exact rfl) | (apply p_sliceS; exact rfl; exact rfl; exact rfl; exact rfl; exact rfl; omega) | (apply p_sliceLo; exact rfl; exact rfl; exact rfl; exact rfl; omega) | (apply p_sliceHi; exact rfl; exact rfl; exact rfl; exact rfl; omega) | (apply p_lookV; exact rfl; exact rfl; exact rfl; (focus ((repeat (first | exact .here .here | exact .here (.there .here) | exact .here (.there (.there .here)) | apply InM.there)); done)); (focus with_reducible assumption)) | (apply p_look1V; exact rfl; exact rfl; exact rfl; (focus ((repeat (first | exact .here .here | exact .here (.there .here) | exact .here (.there (.there .here)) | apply InM.there)); done)); (focus with_reducible assumption)) | (apply p_shr; exact rfl; exact rfl; exact rfl; (focus (first | decide | omega | exact u64_nn _))) | (apply p_shl; exact rfl; exact rfl; exact rfl; (focus (first | decide | omega | exact u64_nn _))) | (apply p_neg; exact rfl; exact rfl) | (apply p_cpl; exact rfl; exact rfl) | (apply p_min; exact rfl; exact rfl; exact rfl) | (apply p_conv; exact rfl; exact rfl; (focus (first | exact wrap_u8 (by omega) | exact wrap_u32 (by omega) | exact wrap_u64 (by omega) | exact wrap_i64 (by omega)))) | (apply p_conv; exact rfl; exact rfl; exact rfl) | (apply p_ixV; exact rfl; exact rfl; exact rfl; omega) | (apply p_index; exact rfl; exact rfl; exact rfl; exact rfl; omega) | (apply p_slAB; exact rfl; exact rfl; exact rfl; exact rfl; exact rfl; omega) | (apply p_slA; exact rfl; exact rfl; exact rfl; exact rfl; omega) | (apply p_slB; exact rfl; exact rfl; exact rfl; exact rfl; omega) | (apply p_sliceArr; exact rfl; exact rfl; exact rfl; exact rfl) | (apply p_pickT; exact rfl; exact rfl; (focus (first | with_reducible rfl | with_reducible assumption | decide)); exact rfl) | (apply p_pickF; exact rfl; exact rfl; (focus (first | with_reducible rfl | with_reducible assumption | decide)); exact rfl) | (apply p_cat; exact rfl; exact rfl; exact rfl; omega)) | (apply p_on; exact rfl; exact rfl; (focus (first | with_reducible assumption | decide)); (first | (apply p_pop; exact rfl; exact rfl) | (apply p_ld; exact rfl; exact rfl; exact rfl; (focus ((repeat (first | exact .here .here | exact .here (.there .here) | exact .here (.there (.there .here)) | apply InM.there)); done)); exact rfl) | (apply p_ldA; exact rfl; exact rfl; exact rfl; (focus ((repeat (first | exact .here .here | exact .here (.there .here) | exact .here (.there (.there .here)) | apply InM.there)); done)); exact rfl) | (apply p_ldRi; exact rfl; exact rfl; exact rfl; (focus ((repeat (first | exact .here .here | exact .here (.there .here) | exact .here (.there (.there .here)) | apply InM.there)); done)); omega) | (apply p_ldRx; exact rfl; exact rfl; exact rfl; (focus ((repeat (first | exact .here .here | exact .here (.there .here) | exact .here (.there (.there .here)) | apply InM.there)); done)); omega) | (apply p_ldRA; exact rfl; exact rfl; exact rfl; (focus ((repeat (first | exact .here .here | exact .here (.there .here) | exact .here (.there (.there .here)) | apply InM.there)); done)); (first | (simp only [List.length_map, List.length_replicate, List.length_set, List.length_append, List.length_cons, List.length_nil]; first | done | omega) | omega)) | (apply p_ldRg; exact rfl; exact rfl; exact rfl; (focus ((repeat (first | exact .here .here | exact .here (.there .here) | exact .here (.there (.there .here)) | apply InM.there)); done)); (focus ((repeat (first | exact GetN.here | apply GetN.there)); done))) | (apply p_ldRQ; exact rfl; exact rfl; exact rfl; (focus ((repeat (first | exact .here .here | exact .here (.there .here) | exact .here (.there (.there .here)) | apply InM.there)); done)); (focus ((repeat (first | exact DrpN.zero | apply DrpN.succ)); done)); (focus ((repeat (first | exact TakN.nil | apply TakN.cons)); done))) | (apply p_ldG; exact rfl; exact rfl; exact rfl; (focus with_reducible assumption); (focus infer_instance); omega) | (apply p_ldKi; exact rfl; exact rfl; exact rfl; (focus with_reducible assumption); (focus infer_instance); omega) | (apply p_ldKb; exact rfl; exact rfl; exact rfl; (focus with_reducible assumption); (focus infer_instance); omega) | (apply p_ldKs; exact rfl; exact rfl; exact rfl; (focus with_reducible assumption); (focus infer_instance); omega) | (apply p_ldIx; exact rfl; exact rfl; exact rfl; (focus with_reducible assumption); (focus infer_instance); exact rfl) | (apply p_ldI0; exact rfl; exact rfl; exact rfl; (focus with_reducible assumption); (focus infer_instance); exact rfl) | (apply p_ldIA; exact rfl; exact rfl; exact rfl; (focus with_reducible assumption); (focus infer_instance); exact rfl) | (apply p_ldIxV; exact rfl; exact rfl; exact rfl; (focus with_reducible assumption); (focus infer_instance); exact rfl) | (apply p_ldIx2; exact rfl; exact rfl; exact rfl; (focus with_reducible assumption); (focus infer_instance); exact rfl) | (apply p_ldOV0; exact rfl; exact rfl; exact rfl; (focus with_reducible assumption); (focus infer_instance); (focus ((repeat (first | exact Pk.here | apply Pk.there)); done)); omega) | (apply p_ldOE1; exact rfl; exact rfl; exact rfl; (focus with_reducible assumption); (focus infer_instance); (focus ((repeat (first | exact Pk.here | apply Pk.there)); done)); omega) | (apply p_ixN; exact rfl; exact rfl; exact rfl; exact rfl; (focus with_reducible assumption); exact rfl; omega) | (apply p_ixI; exact rfl; exact rfl; exact rfl; exact rfl; (focus with_reducible assumption); exact rfl; omega) | (apply p_ixO; exact rfl; exact rfl; exact rfl; exact rfl; (focus with_reducible assumption); exact rfl; omega) | (apply p_ixL; exact rfl; exact rfl; exact rfl; exact rfl; omega) | (apply p_ixLi; exact rfl; exact rfl; exact rfl; exact rfl; omega) | (apply p_ixA; exact rfl; exact rfl; exact rfl; exact rfl; omega) | (apply p_ixAi; exact rfl; exact rfl; exact rfl; exact rfl; omega) | (apply p_lenS; exact rfl; exact rfl; exact rfl) | (apply p_eqS; exact rfl; exact rfl; exact rfl) | (apply p_neS; exact rfl; exact rfl; exact rfl) | (apply p_add; exact rfl; exact rfl; exact rfl; omega) | (apply p_sub; exact rfl; exact rfl; exact rfl; omega) | (apply p_mul; exact rfl; exact rfl; exact rfl; omega) | (apply p_add64; exact rfl; exact rfl; exact rfl; omega) | (apply p_sub64; exact rfl; exact rfl; exact rfl; omega) | (apply p_mul64; exact rfl; exact rfl; exact rfl; omega) | (apply p_addQ; exact rfl; exact rfl; exact rfl) | (apply p_subQ; exact rfl; exact rfl; exact rfl) | (apply p_mulQ; exact rfl; exact rfl; exact rfl) | (apply p_rem; exact rfl; exact rfl; exact rfl; omega) | (apply p_remU; exact rfl; exact rfl; exact rfl; decide) | (apply p_quo8; exact rfl; exact rfl; exact rfl; omega) | (apply p_quo64; exact rfl; exact rfl; exact rfl; omega) | (apply p_quo; exact rfl; exact rfl; exact rfl; omega) | (apply p_eqV; exact rfl; exact rfl; exact rfl) | (apply p_neV; exact rfl; exact rfl; exact rfl) | (apply p_eqE; exact rfl; exact rfl; exact rfl) | (apply p_neE; exact rfl; exact rfl; exact rfl) | (apply p_sliceS; exact rfl; exact rfl; exact rfl; exact rfl; exact rfl; omega) | (apply p_sliceLo; exact rfl; exact rfl; exact rfl; exact rfl; omega) | (apply p_sliceHi; exact rfl; exact rfl; exact rfl; exact rfl; omega) | (apply p_lookV; exact rfl; exact rfl; exact rfl; (focus ((repeat (first | exact .here .here | exact .here (.there .here) | exact .here (.there (.there .here)) | apply InM.there)); done)); (focus with_reducible assumption)) | (apply p_look1V; exact rfl; exact rfl; exact rfl; (focus ((repeat (first | exact .here .here | exact .here (.there .here) | exact .here (.there (.there .here)) | apply InM.there)); done)); (focus with_reducible assumption)) | (apply p_shr; exact rfl; exact rfl; exact rfl; (focus (first | decide | omega | exact u64_nn _))) | (apply p_shl; exact rfl; exact rfl; exact rfl; (focus (first | decide | omega | exact u64_nn _))) | (apply p_neg; exact rfl; exact rfl) | (apply p_cpl; exact rfl; exact rfl) | (apply p_min; exact rfl; exact rfl; exact rfl) | (apply p_conv; exact rfl; exact rfl; (focus (first | exact wrap_u8 (by omega) | exact wrap_u32 (by omega) | exact wrap_u64 (by omega) | exact wrap_i64 (by omega)))) | (apply p_conv; exact rfl; exact rfl; exact rfl) | (apply p_ixV; exact rfl; exact rfl; exact rfl; omega) | (apply p_index; exact rfl; exact rfl; exact rfl; exact rfl; omega) | (apply p_slAB; exact rfl; exact rfl; exact rfl; exact rfl; exact rfl; omega) | (apply p_slA; exact rfl; exact rfl; exact rfl; exact rfl; omega) | (apply p_slB; exact rfl; exact rfl; exact rfl; exact rfl; omega) | (apply p_sliceArr; exact rfl; exact rfl; exact rfl; exact rfl) | (apply p_pickT; exact rfl; exact rfl; (focus (first | with_reducible rfl | with_reducible assumption | decide)); exact rfl) | (apply p_pickF; exact rfl; exact rfl; (focus (first | with_reducible rfl | with_reducible assumption | decide)); exact rfl) | (apply p_cat; exact rfl; exact rfl; exact rfl; omega))) | (apply p_offT; exact rfl; exact rfl; exact rfl; (first | with_reducible assumption | decide)) | (apply p_offF; exact rfl; exact rfl; exact rfl; (first | with_reducible assumption | decide)) | (apply p_offu; exact rfl; exact rfl; exact rfl)))) | (apply w_st; exact rfl; exact rfl; exact rfl; (focus ((repeat (first | exact .here .here | exact .here (.there .here) | exact .here (.there (.there .here)) | apply RepM.there)); done)); exact rfl; (focus (repeat (first | exact Upd.here | apply Upd.there rfl)))) | (apply w_stRi; exact rfl; exact rfl; exact rfl; (focus ((repeat (first | exact .here .here | exact .here (.there .here) | exact .here (.there (.there .here)) | apply RepM.there)); done)); (focus omega)) | (apply w_stA; exact rfl; exact rfl; exact rfl; (focus ((repeat (first | exact .here .here | exact .here (.there .here) | exact .here (.there (.there .here)) | apply RepM.there)); done)); exact rfl; exact rfl; (focus (repeat (first | exact UpdN.nil | (apply UpdN.cons; (focus (repeat (first | exact Upd.here | apply Upd.there rfl)))))))) | (apply w_stRA; exact rfl; exact rfl; exact rfl; (focus ((repeat (first | exact .here .here | exact .here (.there .here) | exact .here (.there (.there .here)) | apply RepM.there)); done)); (focus (first | with_reducible assumption | (rw [List.all_map]; exact List.all_eq_true.2 fun _ _ => rfl) | (simp only [List.all_cons, List.all_nil, one]; done) | (simp; done))); (focus (first | (simp only [List.length_map, List.length_replicate, List.length_set, List.length_append, List.length_cons, List.length_nil]; first | done | omega) | omega)); (focus (first | (simp only [List.length_map, List.length_replicate, List.length_set, List.length_append, List.length_cons, List.length_nil]; first | done | omega) | omega))) | (apply w_stRx; exact rfl; exact rfl; exact rfl; exact rfl; (focus ((repeat (first | exact .here .here | exact .here (.there .here) | exact .here (.there (.there .here)) | apply RepM.there)); done)); (focus ((repeat (first | exact SetL.here | apply SetL.there)); done))) | (apply w_stRy; exact rfl; exact rfl; exact rfl; (focus ((repeat (first | exact .here .here | exact .here (.there .here) | exact .here (.there (.there .here)) | apply RepM.there)); done)); exact rfl; exact rfl; (focus (intro e; cases e)); (focus ((repeat (first | exact SetN.nil | (apply SetN.cons; (focus ((repeat (first | exact SetL.here | apply SetL.there)); done))))); done))) | (apply w_condT; exact rfl; (focus (first | with_reducible rfl | decide | with_reducible assumption))) | (apply w_condF; exact rfl; (focus (first | with_reducible rfl | decide | with_reducible assumption))))); (first | ((first | (apply w_alloc; exact rfl) | (apply w_allocR; exact rfl) | (apply w_box1; exact rfl; exact rfl; (focus rfl)) | (apply w_boxR; exact rfl; exact rfl) | (apply w_mkV; exact rfl) | (apply w_mkD; exact rfl)); exact k.h) | exact k.h))) : p := h ⟨k⟩
/-- .. in a region that draws. -/
theorem dg {p q : Prop} (k : q) (h : Hold q → p := by (intro k; (repeat (apply DR.cons; (focus (first | (first | (apply p_pop; exact rfl; exact rfl) | (apply p_ld; exact rfl; exact rfl; exact rfl; (focus ((repeat (first | exact .here .here | exact .here (.there .here) | exact .here (.there (.there .here)) | apply InM.there)); done)); exact rfl) | (apply p_ldA; exact rfl; exact rfl; exact rfl; (focus ((repeat (first | exact .here .here | exact .here (.there .here) | exact .here (.there (.there .here)) | apply InM.there)); done)); exact rfl) | (apply p_ldRi; exact rfl; exact rfl; exact rfl; (focus ((repeat (first | exact .here .here | exact .here (.there .here) | exact .here (.there (.there .here)) | apply InM.there)); done)); omega) | (apply p_ldRx; exact rfl; exact rfl; exact rfl; (focus ((repeat (first | exact .here .here | exact .here (.there .here) | exact .here (.there (.there .here)) | apply InM.there)); done)); omega) | (apply p_ldRA; exact rfl; exact rfl; exact rfl; (focus ((repeat (first | exact .here .here | exact .here (.there .here) | exact .here (.there (.there .here)) | apply InM.there)); done)); (first | (simp only [List.length_map, List.length_replicate, List.length_set, List.length_append, List.length_cons, List.length_nil]; first | done | omega) | omega)) | (apply p_ldRg; exact rfl; exact rfl; exact rfl; (focus ((repeat (first | exact .here .here | exact .here (.there .here) | exact .here (.there (.there .here)) | apply InM.there)); done)); (focus ((repeat (first | exact GetN.here | apply GetN.there)); done))) | (apply p_ldRQ; exact rfl; exact rfl; exact rfl; (focus ((repeat (first | exact .here .here | exact .here (.there .here) | exact .here (.there (.there .here)) | apply InM.there)); done)); (focus ((repeat (first | exact DrpN.zero | apply DrpN.succ)); done)); (focus ((repeat (first | exact TakN.nil | apply TakN.cons)); done))) | (apply p_ldG; exact rfl; exact rfl; exact rfl; (focus with_reducible assumption); (focus infer_instance); omega) | (apply p_ldKi; exact rfl; exact rfl; exact rfl; (focus with_reducible assumption); (focus infer_instance); omega) | (apply p_ldKb; exact rfl; exact rfl; exact rfl; (focus with_reducible assumption); (focus infer_instance); omega) | (apply p_ldKs; exact rfl; exact rfl; exact rfl; (focus with_reducible assumption); (focus infer_instance); omega) | (apply p_ldIx; exact rfl; exact rfl; exact rfl; (focus with_reducible assumption); (focus infer_instance); exact rfl) | (apply p_ldI0; exact rfl; exact rfl; exact rfl; (focus with_reducible assumption); (focus infer_instance); exact rfl) | (apply p_ldIA; exact rfl; exact rfl; exact rfl; (focus with_reducible assumption); (focus infer_instance); exact rfl) | (apply p_ldIxV; exact rfl; exact rfl; exact rfl; (focus with_reducible assumption); (focus infer_instance); exact rfl) | (apply p_ldIx2; exact rfl; exact rfl; exact rfl; (focus with_reducible assumption); (focus infer_instance); exact rfl) | (apply p_ldOV0; exact rfl; exact rfl; exact rfl; (focus with_reducible assumption); (focus infer_instance); (focus ((repeat (first | exact Pk.here | apply Pk.there)); done)); omega) | (apply p_ldOE1; exact rfl; exact rfl; exact rfl; (focus with_reducible assumption); (focus infer_instance); (focus ((repeat (first | exact Pk.here | apply Pk.there)); done)); omega) | (apply p_ixN; exact rfl; exact rfl; exact rfl; exact rfl; (focus with_reducible assumption); exact rfl; omega) | (apply p_ixI; exact rfl; exact rfl; exact rfl; exact rfl; (focus with_reducible assumption); exact rfl; omega) | (apply p_ixO; exact rfl; exact rfl; exact rfl; exact rfl; (focus with_reducible assumption); exact rfl; omega) | (apply p_ixL; exact rfl; exact rfl; exact rfl; exact rfl; omega) | (apply p_ixLi; exact rfl; exact rfl; exact rfl; exact rfl; omega) | (apply p_ixA; exact rfl; exact rfl; exact rfl; exact rfl; omega) | (apply p_ixAi; exact rfl; exact rfl; exact rfl; exact rfl; omega) | (apply p_lenS; exact rfl; exact rfl; exact rfl) | (apply p_eqS; exact rfl; exact rfl; exact rfl) | (apply p_neS; exact rfl; exact rfl; exact rfl) | (apply p_add; exact rfl; exact rfl; exact rfl; omega) | (apply p_sub; exact rfl; exact rfl; exact rfl; omega) | (apply p_mul; exact rfl; exact rfl; exact rfl; omega) | (apply p_add64; exact rfl; exact rfl; exact rfl; omega) | (apply p_sub64; exact rfl; exact rfl; exact rfl; omega) | (apply p_mul64; exact rfl; exact rfl; exact rfl; omega) | (apply p_addQ; exact rfl; exact rfl; exact rfl) | (apply p_subQ; exact rfl; exact rfl; exact rfl) | (apply p_mulQ; exact rfl; exact rfl; exact rfl) | (apply p_rem; exact rfl; exact rfl; exact rfl; omega) | (apply p_remU; exact rfl; exact rfl; exact rfl; decide) | (apply p_quo8; exact rfl; exact rfl; exact rfl; omega) | (apply p_quo64; exact rfl; exact rfl; exact rfl; omega) | (apply p_quo; exact rfl; exact rfl; exact rfl; omega) | (apply p_eqV; exact rfl; exact rfl; exact rfl) | (apply p_neV; exact rfl; exact rfl; exact rfl) | (apply p_eqE; exact rfl; exact rfl; exact rfl) | (apply p_neE; exact rfl; exact rfl; exact rfl) | (apply p_sliceS; exact rfl; exact rfl; exact rfl; exact rfl; exact rfl; omega) | (apply p_sliceLo; exact rfl; exact rfl; exact rfl; exact rfl; omega) | (apply p_sliceHi; exact rfl; exact rfl; exact rfl; exact rfl; omega) | (apply p_lookV; exact rfl; exact rfl; exact rfl; (focus ((repeat (first | exact .here .here | exact .here (.there .here) | exact .here (.there (.there .here)) | apply InM.there)); done)); (focus with_reducible assumption)) | (apply p_look1V; exact rfl; exact rfl; exact rfl; (focus ((repeat (first | exact .here .here | exact .here (.there .here) | exact .here (.there (.there .here)) | apply InM.there)); done)); (focus with_reducible assumption)) | (apply p_shr; exact rfl; exact rfl; exact rfl; (focus (first | decide | omega | exact u64_nn _))) | (apply p_shl; exact rfl; exact rfl; exact rfl; (focus (first | decide | omega | exact u64_nn _))) | (apply p_neg; exact rfl; exact rfl) | (apply p_cpl; exact rfl; exact rfl) | (apply p_min; exact rfl; exact rfl; exact rfl) | (apply p_conv; exact rfl; exact rfl; (focus (first | exact wrap_u8 (by omega) | exact wrap_u32 (by omega) | exact wrap_u64 (by omega) | exact wrap_i64 (by omega)))) | (apply p_conv; exact rfl; exact rfl; exact rfl) | (apply p_ixV; exact rfl; exact rfl; exact rfl; omega) | (apply p_index; exact rfl; exact rfl; exact rfl; exact rfl; omega) | (apply p_slAB; exact rfl; exact rfl; exact rfl; exact rfl; exact rfl; omega) | (apply p_slA; exact rfl; exact rfl; exact rfl; exact rfl; omega) | (apply p_slB; exact rfl; exact rfl; exact rfl; exact rfl; omega) | (apply p_sliceArr; exact rfl; exact rfl; exact rfl; exact rfl) | (apply p_pickT; exact rfl; exact rfl; (focus (first | with_reducible rfl | with_reducible assumption | decide)); exact rfl) | (apply p_pickF; exact rfl; exact rfl; (focus (first | with_reducible rfl | with_reducible assumption | decide)); exact rfl) | (apply p_cat; exact rfl; exact rfl; exact rfl; omega)) | (apply p_on; exact rfl; exact rfl; (focus (first | with_reducible assumption | decide)); (first | (apply p_pop; exact rfl; exact rfl) | (apply p_ld; exact rfl; exact rfl; exact rfl; (focus ((repeat (first | exact .here .here | exact .here (.there .here) | exact .here (.there (.there .here)) | apply InM.there)); done)); exact rfl) | (apply p_ldA; exact rfl; exact rfl; exact rfl; (focus ((repeat (first | exact .here .here | exact .here (.there .here) | exact .here (.there (.there .here)) | apply InM.there)); done)); exact rfl) | (apply p_ldRi; exact rfl; exact rfl; exact rfl; (focus ((repeat (first | exact .here .here | exact .here (.there .here) | exact .here (.there (.there .here)) | apply InM.there)); done)); omega) | (apply p_ldRx; exact rfl; exact rfl; exact rfl; (focus ((repeat (first | exact .here .here | exact .here (.there .here) | exact .here (.there (.there .here)) | apply InM.there)); done)); omega) | (apply p_ldRA; exact rfl; exact rfl; exact rfl; (focus ((repeat (first | exact .here .here | exact .here (.there .here) | exact .here (.there (.there .here)) | apply InM.there)); done)); (first | (simp only [List.length_map, List.length_replicate, List.length_set, List.length_append, List.length_cons, List.length_nil]; first | done | omega) | omega)) | (apply p_ldRg; exact rfl; exact rfl; exact rfl; (focus ((repeat (first | exact .here .here | exact .here (.there .here) | exact .here (.there (.there .here)) | apply InM.there)); done)); (focus ((repeat (first | exact GetN.here | apply GetN.there)); done))) | (apply p_ldRQ; exact rfl; exact rfl; exact rfl; (focus ((repeat (first | exact .here .here | exact .here (.there .here) | exact .here (.there (.there .here)) | apply InM.there)); done)); (focus ((repeat (first | exact DrpN.zero | apply DrpN.succ)); done)); (focus ((repeat (first | exact TakN.nil | apply TakN.cons)); done))) | (apply p_ldG; exact rfl; exact rfl; exact rfl; (focus with_reducible assumption); (focus infer_instance); omega) | (apply p_ldKi; exact rfl; exact rfl; exact rfl; (focus with_reducible assumption); (focus infer_instance); omega) | (apply p_ldKb; exact rfl; exact rfl; exact rfl; (focus with_reducible assumption); (focus infer_instance); omega) | (apply p_ldKs; exact rfl; exact rfl; exact rfl; (focus with_reducible assumption); (focus infer_instance); omega) | (apply p_ldIx; exact rfl; exact rfl; exact rfl; (focus with_reducible assumption); (focus infer_instance); exact rfl) | (apply p_ldI0; exact rfl; exact rfl; exact rfl; (focus with_reducible assumption); (focus infer_instance); exact rfl) | (apply p_ldIA; exact rfl; exact rfl; exact rfl; (focus with_reducible assumption); (focus infer_instance); exact rfl) | (apply p_ldIxV; exact rfl; exact rfl; exact rfl; (focus with_reducible assumption); (focus infer_instance); exact rfl) | (apply p_ldIx2; exact rfl; exact rfl; exact rfl; (focus with_reducible assumption); (focus infer_instance); exact rfl) | (apply p_ldOV0; exact rfl; exact rfl; exact rfl; (focus with_reducible assumption); (focus infer_instance); (focus ((repeat (first | exact Pk.here | apply Pk.there)); done)); omega) | (apply p_ldOE1; exact rfl; exact rfl; exact rfl; (focus with_reducible assumption); (focus infer_instance); (focus ((repeat (first | exact Pk.here | apply Pk.there)); done)); omega) | (apply p_ixN; exact rfl; exact rfl; exact rfl; exact rfl; (focus with_reducible assumption); exact rfl; omega) | (apply p_ixI; exact rfl; exact rfl; exact rfl; exact rfl; (focus with_reducible assumption); exact rfl; omega) | (apply p_ixO; exact rfl; exact rfl; exact rfl; exact rfl; (focus with_reducible assumption); exact rfl; omega) | (apply p_ixL; exact rfl; exact rfl; exact rfl; exact rfl; omega) | (apply p_ixLi; exact rfl; exact rfl; exact rfl; exact rfl; omega) | (apply p_ixA; exact rfl; exact rfl; exact rfl; exact rfl; omega) | (apply p_ixAi; exact rfl; exact rfl; exact rfl; exact rfl; omega) | (apply p_lenS; exact rfl; exact rfl; exact rfl) | (apply p_eqS; exact rfl; exact rfl; exact rfl) | (apply p_neS; exact rfl; exact rfl; exact rfl) | (apply p_add; exact rfl; exact rfl; exact rfl; omega) | (apply p_sub; exact rfl; exact rfl; exact rfl; omega) | (apply p_mul; exact rfl; exact rfl; exact rfl; omega) | (apply p_add64; exact rfl; exact rfl; exact rfl; omega) | (apply p_sub64; exact rfl; exact rfl; exact rfl; omega) | (apply p_mul64; exact rfl; exact rfl; exact rfl; omega) | (apply p_addQ; exact rfl; exact rfl; exact rfl) | (apply p_subQ; exact rfl; exact rfl; exact rfl) | (apply p_mulQ; exact rfl; exact rfl; exact rfl) | (apply p_rem; exact rfl; exact rfl; exact rfl; omega) | (apply p_remU; exact rfl; exact rfl; exact rfl; decide) | (apply p_quo8; exact rfl; exact rfl; exact rfl; omega) | (apply p_quo64; exact rfl; exact rfl; exact rfl; omega) | (apply p_quo; exact rfl; exact rfl; exact rfl; omega) | (apply p_eqV; exact rfl; exact rfl; exact rfl) | (apply p_neV; exact rfl; exact rfl; exact rfl) | (apply p_eqE; exact rfl; exact rfl; exact rfl) | (apply p_neE; exact rfl; exact rfl; exact rfl) | (apply p_sliceS; exact rfl; exact rfl; exact rfl; exact rfl; exact rfl; omega) | (apply p_sliceLo; exact rfl; exact rfl; exact rfl; exact rfl; omega) | (apply p_sliceHi; exact rfl; exact rfl; exact rfl; exact rfl; omega) | (apply p_lookV; exact rfl; exact rfl; exact rfl; (focus ((repeat (first | exact .here .here | exact .here (.there .here) | exact .here (.there (.there .here)) | apply InM.there)); done)); (focus with_reducible assumption)) | (apply p_look1V; exact rfl; exact rfl; exact rfl; (focus ((repeat (first | exact .here .here | exact .here (.there .here) | exact .here (.there (.there .here)) | apply InM.there)); done)); (focus with_reducible assumption)) | (apply p_shr; exact rfl; exact rfl; exact rfl; (focus (first | decide | omega | exact u64_nn _))) | (apply p_shl; exact rfl; exact rfl; exact rfl; (focus (first | decide | omega | exact u64_nn _))) | (apply p_neg; exact rfl; exact rfl) | (apply p_cpl; exact rfl; exact rfl) | (apply p_min; exact rfl; exact rfl; exact rfl) | (apply p_conv; exact rfl; exact rfl; (focus (first | exact wrap_u8 (by omega) | exact wrap_u32 (by omega) | exact wrap_u64 (by omega) | exact wrap_i64 (by omega)))) | (apply p_conv; exact rfl; exact rfl; exact rfl) | (apply p_ixV; exact rfl; exact rfl; exact rfl; omega) | (apply p_index; exact rfl; exact rfl; exact rfl; exact rfl; omega) | (apply p_slAB; exact rfl; exact rfl; exact rfl; exact rfl; exact rfl; omega) | (apply p_slA; exact rfl; exact rfl; exact rfl; exact rfl; omega) | (apply p_slB; exact rfl; exact rfl; exact rfl; exact rfl; omega) | (apply p_sliceArr; exact rfl; exact rfl; exact rfl; exact rfl) | (apply p_pickT; exact rfl; exact rfl; (focus (first | with_reducible rfl | with_reducible assumption | decide)); exact rfl) | (apply p_pickF; exact rfl; exact rfl; (focus (first | with_reducible rfl | with_reducible assumption | decide)); exact rfl) | (apply p_cat; exact rfl; exact rfl; exact rfl; omega))) | (apply p_offT; exact rfl; exact rfl; exact rfl; (first | with_reducible assumption | decide)) | (apply p_offF; exact rfl; exact rfl; exact rfl; (first | with_reducible assumption | decide)) | (apply p_offu; exact rfl; exact rfl; exact rfl))))); (first | exact DR.nil k.h | exact k.h))) : p := h ⟨k⟩
/-- The memory, told as `M'`. -/
theorem mem (M' : List Chunk) {R : List Chunk} (h : W P Q0 N D w0 G0 K0 s G L M') (hs : Sel M M' R := by repeat (first | exact Sel.nil | (apply Sel.cons; (focus (repeat (first | exact Pk.here | apply Pk.there)))))) : W P Q0 N D w0 G0 K0 s G L M := h.mem hs
end
end Go.Proofs.YtngoaapgdfohjaaGreatDoor.X

set_option linter.unusedVariables false
set_option linter.unusedSimpArgs false
namespace Go.Proofs.YtngoaapgdfohjaaGreatDoor.X
open Go
theorem Pk.fr {C : Chunk} {M R : List Chunk} (h : Pk C M R) : Fr C M R := by
  induction h with
  | here => exact .here
  | there _ ih => exact .there ih
theorem Pk.mem {C : Chunk} {M R : List Chunk} (h : Pk C M R) : ∃ A B, M = A ++ C :: B ∧ R = A ++ B := by
  induction h with
  | @here r => exact ⟨[], r, rfl, rfl⟩
  | @there X r r' _ ih =>
    obtain ⟨A, B, rfl, rfl⟩ := ih
    exact ⟨X :: A, B, rfl, rfl⟩
section
variable {P : Program} {Q0 : Exit → Act → World → Prop} {N : Nat} {D : List Deferred} {w0 : World} {G0 : Heap} {K0 : List Nat} {s : List Itm} {G G1 : Heap} {L L' : List (Nat × Value)} {M M' R : List Chunk} {ops all : Array Oper} {o : Oper} {d : Nat} {v : Value} {rest : List Oper}
variable {ty : TypeId} {pos : String} {af : Array Edge} {tb : Tb} {x y z : Operand} {t T b off : Nat} {Lb : List (Nat × Value)}
/-! ## What isn't written any more -/
theorem St.stillArr {w : World} {vs : List Value} (h : St w0 G0 K0 G w M) (hp : Pk [(b, Arr T vs)] M R) : ∃ G', Heap.le G G' ∧ CellsAt G' b 0 vs ∧ St w0 G0 K0 G' w R := by
  have h1 : St w0 G0 K0 G w ([] ++ ([] ++ (b, Arr T vs) :: []) :: R) := h.perm (flat_perm hp.perm).symm
  obtain ⟨G', hle, hb, hS⟩ := St.freeze (A := []) (C := []) (D := []) (B := R) (o := .cells vs.toArray T (0, 0)) h1
  refine ⟨G', hle, fun k v hk => ?_, hS.perm (by simp)⟩
  simp [Heap.cell, hb, hk]
/-- A row of one's own that isn't written any more. -/
theorem w_still {vs : List Value} (b : Nat) (hp : Pk [(b, Arr T vs)] M R) (k : ∀ G', Le1 G G' → CellsAt G' b 0 vs → W P Q0 N D w0 G0 K0 s G' L R) : W P Q0 N D w0 G0 K0 s G L M := W.of fun a w E S => by
  obtain ⟨G', hle, hc, S'⟩ := S.stillArr hp
  exact (k G' ⟨hle⟩ hc).run a w E S'
theorem Rd.nums {q : IntKind} {b : Nat} {xs : List Int} (h : CellsAt G b 0 (xs.map (Value.int q))) : Rd (Knd.int q) G (some ⟨b, 0, none⟩) xs := by
  refine .inr ⟨b, 0, rfl, fun i x hi => ⟨[.int q x], rfl, fun k v hk => ?_⟩⟩
  cases k with
  | zero =>
    simp only [List.getElem?_cons_zero, Option.some.injEq] at hk
    subst hk
    have := h i (.int q x) (by rw [List.getElem?_map, hi]; rfl)
    simpa [Knd.int, Knd.of] using this
  | succ k => simp at hk
/-- A part of a frozen row. -/
theorem Rd.part {q : IntKind} {b : Nat} {xs : List Int} (h : CellsAt G b 0 (xs.map (Value.int q))) (o n : Nat) : Rd (Knd.int q) G (some ⟨b, o, none⟩) ((xs.drop o).take n) := by
  refine .inr ⟨b, o, rfl, fun i x hi => ⟨[.int q x], rfl, fun k v hk => ?_⟩⟩
  cases k with
  | zero =>
    simp only [List.getElem?_cons_zero, Option.some.injEq] at hk
    subst hk
    rw [List.getElem?_take] at hi
    split at hi
    · rw [List.getElem?_drop] at hi
      have := h (o + i) (.int q x) (by rw [List.getElem?_map, hi]; rfl)
      simpa [Knd.int, Knd.of] using this
    · cases hi
  | succ k => simp at hk
/-- .. a list of one's own. -/
theorem w_stillO {α : Type} {K : Knd α} {A : Option Addr} {c : Nat} {xs : List α} {C : Chunk} (hO : X.Own K T G1 A c xs C) (hl : LeT G1 G) (hp : Pk C M R) (k : ∀ G', Le1 G G' → Rd K G' A xs → xs.length ≤ c → W P Q0 N D w0 G0 K0 s G' L R) : W P Q0 N D w0 G0 K0 s G L M := W.of fun a w E S => by
  obtain ⟨G', hle, S', hR⟩ := X.Own.still S hp.fr (hO.le hl.le)
  exact (k G' ⟨hle⟩ hR hO.cap).run a w E S'
/-! ## Lists of one's own -/
theorem w_nilO {α : Type} {K : Knd α} (T : Nat) (k : X.Own K T G none 0 ([] : List α) [] → W P Q0 N D w0 G0 K0 s G L ([] :: M)) : W P Q0 N D w0 G0 K0 s G L M := W.of fun a w E S => (k X.Own.nil).run a w E S.nilChunk
theorem w_app {α : Type} {K : Knd α} {A B : Option Addr} {c cB by' : Nat} {xs ys : List α} {C : Chunk} {G2 : Heap} [h : HasTb P tb] (hN : Nat.blt d N = true) (hx : ev L x = some (.slice A xs.length c)) (hO : X.Own K T G1 A c xs C) (hl : LeT G1 G) (hp : Pk C M R) (hy : ev L y = some (.slice B ys.length cB)) (hR : Rd K G2 B ys) (hl2 : LeT G2 G) (ht : lookP tb.ap t = some (T, K.sz, by')) (h1 : KOne K)
    (hb : (xs.length + ys.length) * by' ≤ 140737488355328 ∧ xs.length + ys.length ≤ 9223372036854775807)
    (k : ∀ A' c' C', X.Own K T G A' c' (xs ++ ys) C' → W P Q0 N D w0 G0 K0 (.ops all rest :: s) G ((d, .slice A' (xs ++ ys).length c') :: L) (C' :: R)) : W P Q0 N D w0 G0 K0 (.ops all (⟨some d, .call ⟨.builtin .append, #[x, y], #[t, t]⟩, ty, pos, af, none⟩ :: rest) :: s) G L M :=
  W.of fun a w E S => o_append E hN S hp.fr (hO.le hl.le) hx hy (tb_ap h ht) (hR.le hl2.le) h1 hb.1 hb.2 fun A' c' C' w' a' S' hO' E' => (k A' c' C' hO').run a' w' E' S'
/-- A row of one's own as a list. -/
theorem w_arrO {q : IntKind} {xs : List Int} (b : Nat) (hp : Pk [(b, Arr T (xs.map (Value.int q)))] M R) (hn : xs.length ≤ 9223372036854775807) (k : ∀ C, X.Own (Knd.int q) T G (some ⟨b, 0, none⟩) xs.length xs C → W P Q0 N D w0 G0 K0 s G L (C :: R)) : W P Q0 N D w0 G0 K0 s G L M := W.of fun a w E S => by
  have hl : ∀ ys : List Int, ListR (Knd.int q) G ys (ys.map (Value.int q)) := by
    intro ys
    induction ys with
    | nil => rfl
    | cons y ys ih => exact ⟨rfl, ih⟩
  refine (k [(b, Row T xs.length 1 xs.length (xs.map (Value.int q)))] ⟨_, hl xs, by simp [Knd.int, Knd.of], by rw [List.all_map]; exact List.all_eq_true.2 fun _ _ => rfl, .inr ⟨b, rfl, Nat.le_refl _, hn, rfl⟩⟩).run a w E ?_
  have h1 : St w0 G0 K0 G w ([] ++ ([] ++ (b, Arr T (xs.map (Value.int q))) :: []) :: R) := S.perm (flat_perm hp.perm).symm
  exact (h1.weak1 (q := Row T xs.length 1 xs.length (xs.map (Value.int q))) fun o ho => ⟨_, ho, by simp, by rw [List.toList_toArray, Nat.mul_one]; exact List.take_of_length_le (by simp)⟩)
theorem kone_int (q : IntKind) : KOne (Knd.int q) := by rintro G x cs rfl; rfl
/-- 'make([]T, 0, n)' -/
theorem w_makeO {K : Knd Int} {n by' : Nat} {q q' : IntKind} [h : HasTb P tb] (hN : Nat.blt d N = true) (hx : ev L x = some (.int q 0)) (hy : ev L y = some (.int q' (n : Int))) (ht : lookP tb.ap t = some (T, K.sz, by')) (hb : by' * n ≤ 281474976710656) (hn : n ≤ 9223372036854775807)
    (k : ∀ A c C, X.Own K T G A c ([] : List Int) C → W P Q0 N D w0 G0 K0 (.ops all rest :: s) G ((d, .slice A 0 c) :: L) (C :: M)) : W P Q0 N D w0 G0 K0 (.ops all (⟨some d, .makeSlice t x y, ty, pos, af, none⟩ :: rest) :: s) G L M := W.of fun a w E S => by
  obtain ⟨i, z, hu, hi, hz, hsz, hby, hzs, hpos⟩ := ap_spec (tb_ap h ht)
  subst hby
  have hb' : (i.bytes : Int) * (n : Int) ≤ 281474976710656 := by
    have h : ((i.bytes * n : Nat) : Int) ≤ 281474976710656 := by omega
    rwa [Int.natCast_mul] at h
  have hr := run_make (P := P) w t T i z hu hi hz q q' 0 n (Int.le_refl _) (by omega) hb' (by omega)
  simp only [Int.toNat_natCast, hsz, Int.toNat_zero] at hr
  show wpList P all (aft P Q0 s) (⟨some d, .makeSlice t x y, ty, pos, af, none⟩ :: rest) a w
  refine op_val (w' := w.alloc (.cells (madeCells z.cells (n * K.sz)) T)) (v := .slice (some ⟨w.heap.size, 0, none⟩) 0 n) rfl rfl E hN ?_ fun a' E' => (k (some ⟨w.heap.size, 0, none⟩) n [(w.heap.size, Row T 0 K.sz n [])] ⟨[], rfl, by simp, rfl, .inr ⟨_, rfl, Nat.zero_le _, hn, rfl⟩⟩).run a' _ E' (S.alloc _ ⟨_, rfl, ?_, by simp⟩)
  · simp [execOp, E.eval hx, E.eval hy, hr]
  · simp [madeCells]
/-! ## Bytes and texts -/
theorem AllIn_enum {L : List (Nat × Value)} : ∀ (l : List Value) (i : Nat), (∀ j u, l[j]? = some u → lk L (i + j) = some u) → AllIn L (enum i l)
  | [], _, _ => trivial
  | v :: r, i, h => ⟨by have := h 0 v rfl; simpa using this, AllIn_enum r (i + 1) fun j u hj => by have := h (j + 1) u (by simpa using hj); rwa [show i + 1 + j = i + (j + 1) by omega]⟩
theorem AllIn_refl (l : List Value) : AllIn (enum 0 l) (enum 0 l) := AllIn_enum l 0 fun j u hj => by rw [lk_enum _ _ _ (by omega)]; simpa using hj
theorem lks_of {L : List (Nat × Value)} : ∀ (l : List Value) (i : Nat), (∀ j u, l[j]? = some u → lk L (i + j) = some u) → lks L i l.length = some l
  | [], _, _ => rfl
  | v :: r, i, h => by
    have h0 := h 0 v rfl
    have h1 := lks_of r (i + 1) fun j u hj => by have := h (j + 1) u (by simpa using hj); rwa [show i + 1 + j = i + (j + 1) by omega]
    simp only [List.length_cons, lks, Nat.add_zero] at h0 ⊢
    rw [h0, h1]
theorem lks_enum0 (l : List Value) : lks (enum 0 l) 0 l.length = some l := lks_of l 0 fun j u hj => by rw [lk_enum _ _ _ (by omega)]; simpa using hj
class B2S (P : Program) (src dst : Nat) : Prop where
  h : b2s P src dst = true
theorem p_b2s {src dst c : Nat} {A : Option Addr} {ns : List Int} [h : B2S P src dst] (hN : Nat.blt d N = true) (hx : ev L x = some (.slice A ns.length c)) (hR : Rd (Knd.int .u8) G1 A ns) (hl : LeT G1 G) : Stp P N D w0 G0 K0 ops G L M ⟨some d, .convert src dst x, ty, pos, af, none⟩ d (str (ns.map fun n => UInt8.ofNat n.toNat)) :=
  Stp.pure fun Q rest a w G2 hl2 E S k => op_val rfl rfl E hN (by
    have ht := h.h
    unfold b2s at ht
    split at ht
    · rename_i e hu
      simp only [Bool.and_eq_true] at ht
      have he : P.underlying e = some (.int .u8) := by
        have := ht.1
        split at this
        · assumption
        · cases this
      have hd : P.underlying dst = some .string := by
        have := ht.2
        split at this
        · assumption
        · cases this
      have h5 : (convert src dst (.slice A ns.length c)).run P w = .ok (str (ns.map fun n => UInt8.ofNat n.toNat)) w := by
        rw [run_convert_bytes_string w src dst e _ _ _ hu he hd]
        cases A with
        | none =>
          rcases hR with rfl | ⟨b, o, hA, _⟩
          · simp [Conv.bytesToString]
            rfl
          · cases hA
        | some ad =>
          have hcs : ∀ j u, (ns.map (Value.int .u8))[j]? = some u → w.cell? (ad.add j) = some u := fun j u hj => by
            rw [List.getElem?_map] at hj
            cases hq : ns[j]? with
            | none => simp [hq] at hj
            | some m =>
              simp only [hq, Option.map_some, Option.some.injEq] at hj
              subst hj
              obtain ⟨b, o, hA, cs, h1, h2⟩ := hR.at hq
              cases hA
              have h1' : cs = [.int .u8 m] := h1
              subst h1'
              rw [addAt]
              have := S.sub.cell ((h2.le (hl.le.trans hl2)) 0 _ rfl)
              simpa [Knd.int, Knd.of] using this
          have h3 : (loadCells ad ns.length).run P w = .ok (ns.map (Value.int .u8)).toArray w := by
            have := run_firstCells_some (P := P) w 1 ns.length ad ns.length c (ns.map (Value.int .u8)) (by simp) hcs
            simpa [Builtin.firstCells] using this
          have h4 := run_bytesToString (P := P) w ad ns.length c ns h3
          rw [foldl_push] at h4
          rw [h4]
          have e0 : (ByteArray.empty.data ++ (ns.map fun n => UInt8.ofNat n.toNat).toArray) = (ns.map fun n => UInt8.ofNat n.toNat).toArray := by
            show ((#[] : Array UInt8) ++ _) = _
            simp
          rw [e0]
      simp [execOp, E.eval hx, h5]
    · cases ht) k
def s2b (P : Program) (src dst : TypeId) : Bool := match P.underlying dst with
  | some (.slice e) => (match P.underlying e with | some (.int .u8) => true | _ => false) && (match P.underlying src with | some .string => true | _ => false)
  | _ => false
class S2B (P : Program) (src dst : Nat) : Prop where
  h : s2b P src dst = true
def byts (r : Bs) : List Int := r.map fun b => (b.toNat : Int)
theorem w_s2b {src dst : Nat} {r : Bs} [h : S2B P src dst] (hN : Nat.blt d N = true) (hx : ev L x = some (str r))
    (k : ∀ b c G', Le1 G G' → r.length ≤ c → Rd (Knd.int .u8) G' (some ⟨b, 0, none⟩) (byts r) → W P Q0 N D w0 G0 K0 (.ops all rest :: s) G' ((d, .slice (some ⟨b, 0, none⟩) (byts r).length c) :: L) M) : W P Q0 N D w0 G0 K0 (.ops all (⟨some d, .convert src dst x, ty, pos, af, none⟩ :: rest) :: s) G L M := W.of fun a w E S => by
  have ht := h.h
  unfold s2b at ht
  split at ht
  · rename_i e hu
    simp only [Bool.and_eq_true] at ht
    have he : P.underlying e = some (.int .u8) := by
      have := ht.1
      split at this
      · assumption
      · cases this
    have hd : P.underlying src = some .string := by
      have := ht.2
      split at this
      · assumption
      · cases this
    have hr := run_bytes_of_string (P := P) w src dst e ⟨r.toArray⟩ hd hu he
    have hsz : (ByteArray.mk r.toArray).size = r.length := by simp [ByteArray.size]
    show wpList P all (aft P Q0 s) (⟨some d, .convert src dst x, ty, pos, af, none⟩ :: rest) a w
    have S1 := S.drew.alloc (.cells (bytesRow ⟨r.toArray⟩ (grownCap w r.length 0 e)) e ((bytesRow ⟨r.toArray⟩ (grownCap w r.length 0 e)).size, (bytesRow ⟨r.toArray⟩ (grownCap w r.length 0 e)).size + 1)) (p := (· = _)) rfl
    obtain ⟨G', hle, hG, S2⟩ := St.freeze (A := []) (C := []) (D := []) (B := M) S1
    have hlen : (byts r).length = r.length := by simp [byts]
    refine op_val (v := .slice (some ⟨w.heap.size, 0, none⟩) (byts r).length (grownCap w r.length 0 e)) rfl rfl E hN ?_ fun a' E' => (k w.heap.size _ G' ⟨hle⟩ (grownCap_ge w r.length 0 e) ?_).run a' _ E' (S2.perm (by simp))
    · rw [hlen]
      simp [execOp, E.eval hx, hr, hsz]
    · refine .inr ⟨w.heap.size, 0, rfl, fun i x hi => ⟨[.int .u8 x], rfl, fun kk v hk => ?_⟩⟩
      cases kk with
      | zero =>
        simp only [List.getElem?_cons_zero, Option.some.injEq] at hk
        subst hk
        have hi' : i < r.length := by
          have := (List.getElem?_eq_some_iff.1 hi).1
          omega
        have hw : w.drew.heap.size = w.heap.size := rfl
        rw [hw] at hG
        simp only [Heap.cell, hG, Knd.int, Knd.of, Nat.mul_one, Nat.zero_add, Nat.add_zero]
        simp only [byts, List.getElem?_map] at hi
        rw [List.getElem?_eq_getElem hi'] at hi
        simp only [Option.map_some, Option.some.injEq] at hi
        subst hi
        simp [bytesRow, Array.getElem?_append, hi']
      | succ kk => simp at hk
  · cases ht
/-- A slice literal that isn't written. -/
theorem w_lit {α : Type} {K : Knd α} (xs : List α) {n e m : Nat} {ps : Array (Nat × Operand)} {vs : List (Nat × Value)} {cs : Array Value} [h : HasTb P tb] (hN : Nat.blt d N = true) (hp : evp L ps.toList = some vs) (ht : lookP tb.sl t = some (e, m)) (hb : bldSl P e n m vs = some cs) (hR : ListR K G xs cs.toList)
    (k : ∀ b G', Le1 G G' → Rd K G' (some ⟨b, 0, none⟩) xs → W P Q0 N D w0 G0 K0 (.ops all rest :: s) G' ((d, .slice (some ⟨b, 0, none⟩) n n) :: L) M) : W P Q0 N D w0 G0 K0 (.ops all (⟨some d, .buildSlice t n ps, ty, pos, af, none⟩ :: rest) :: s) G L M := W.of fun a w E S => by
  refine o_buildSl (enum 0 cs.toList) E hN S hp (tb_sl h ht) hb (AllIn_refl _) fun b w' a' S' E' => ?_
  obtain ⟨G', hle, hC, S2⟩ := S'.stillHead (n := cs.toList.length) (lks_enum0 cs.toList)
  exact (k b G' ⟨hle⟩ (Rd.ofCells hC (hR.le hle))).run a' w' E' S2
/-- 'copy(x, y)' into a row of one's own. -/
theorem w_copy {q : IntKind} {b o n c c' e : Nat} {A : Option Addr} {xs ys : List Int} {M' : List Chunk} [h : HasTb P tb] (hN : Nat.blt d N = true) (hx : ev L x = some (.slice (some ⟨b, o, none⟩) n c)) (hy : ev L y = some (.slice A ys.length c')) (ht : lookP tb.sl t = some (e, 1)) (hR : Rd (Knd.int q) G1 A ys) (hl : LeT G1 G)
    (hm : RepM b (Arr T (xs.map (Value.int q))) (Arr T ((xs.take o ++ ys.take (min ys.length n) ++ xs.drop (o + min ys.length n)).map (Value.int q))) M M') (hf : o + min ys.length n ≤ xs.length)
    (k : W P Q0 N D w0 G0 K0 (.ops all rest :: s) G ((d, .int .i64 ((min ys.length n : Nat) : Int)) :: L) M') : W P Q0 N D w0 G0 K0 (.ops all (⟨some d, .call ⟨.builtin .copy, #[x, y], #[t, t]⟩, ty, pos, af, none⟩ :: rest) :: s) G L M := W.of fun a w E S => by
  obtain ⟨inf, hu, hi, hs⟩ := sl_spec (tb_sl h ht)
  have hsz : (P.info? e).map (·.size) = some 1 := by rw [hi]; simp [hs]
  obtain ⟨A0, X, Y, B0, rfl, rfl⟩ := hm.split
  have hb := S.arr (InM.mk' A0 X Y B0)
  show wpList P all (aft P Q0 s) (⟨some d, .call ⟨.builtin .copy, #[x, y], #[t, t]⟩, ty, pos, af, none⟩ :: rest) a w
  have hcs : ∀ ad, A = some ad → ∀ j u, ((ys.take (min ys.length n)).map (Value.int q))[j]? = some u → w.cell? (ad.add j) = some u := fun ad hA j u hj => by
    rw [List.getElem?_map, List.getElem?_take] at hj
    split at hj
    · cases hq : ys[j]? with
      | none => simp [hq] at hj
      | some m =>
        simp only [hq, Option.map_some, Option.some.injEq] at hj
        subst hj
        obtain ⟨b1, o1, hA1, cs, h1, h2⟩ := hR.at hq
        rw [hA1] at hA
        cases hA
        have h1' : cs = [.int q m] := h1
        subst h1'
        rw [addAt]
        have := S.sub.cell ((h2.le hl.le) 0 _ rfl)
        simpa [Knd.int, Knd.of] using this
    · simp at hj
  have hfin : ∃ w', (Builtin.copy_ #[t, t] ty #[.slice (some ⟨b, o, none⟩) n c, .slice A ys.length c']).run P w = .ok (.int .i64 ((min ys.length n : Nat) : Int)) w' ∧ St w0 G0 K0 G w' (A0 ++ (X ++ (b, Arr T ((xs.take o ++ ys.take (min ys.length n) ++ xs.drop (o + min ys.length n)).map (Value.int q))) :: Y) :: B0) := by
    cases A with
    | none =>
      rcases hR with rfl | ⟨b1, o1, hA, _⟩
      · refine ⟨w, ?_, ?_⟩
        · cases hq : P.info? e with
          | none => simp [hq] at hsz
          | some i2 => simp [Builtin.copy_, run_underlying hu, Builtin.lenOf, Builtin.firstCells, sizeOf, typeInfo, hq, storeCells, goInt]
        · simpa using S
      · cases hA
    | some ad =>
      have hr := run_copy_row (P := P) w t t ty e b o n c ad ys.length c' _ _ ((ys.take (min ys.length n)).map (Value.int q)) hu hsz hb (by simp) (hcs ad rfl) (by simp; omega) (fun v hv => by
        obtain ⟨m, _, rfl⟩ := List.mem_map.1 hv
        rfl)
      have hlen : ((ys.take (min ys.length n)).map (Value.int q)).length = min ys.length n := by simp
      rw [hlen] at hr
      refine ⟨_, hr, St.turn S rfl rfl rfl (by simp) (fun k hk => setRow_other w b k _ hk) ⟨_, setRow_heap w b _ _ _ _ hb, ?_⟩⟩
      simp [Arr, List.map_take, List.map_drop]
  obtain ⟨w', hr, S'⟩ := hfin
  refine op_val (w' := w') rfl rfl E hN ?_ fun a' E' => k.run a' w' E' S'
  simp [execOp, resolve, invoke, builtin, E.eval hx, E.eval hy, hr]
/-- An element that is a slice. -/
theorem w_ldSl {α : Type} {K : Knd α} {A : Option Addr} {xs : List (List α)} {j : Nat} [h : HasTb P tb] (hN : Nat.blt d N = true) (hx : ev L x = some (.pointer (some ⟨aB A, aO A + j * 1, none⟩))) (ht : tb.sc.elem t = true) (hR : Rd (Knd.slice K) G1 A xs) (hl : LeT G1 G) (hj : j < xs.length)
    (k : ∀ A' c', Rd K G1 A' (xs.getD j []) → (xs.getD j []).length ≤ c' → W P Q0 N D w0 G0 K0 (.ops all rest :: s) G ((d, .slice A' (xs.getD j []).length c') :: L) M) : W P Q0 N D w0 G0 K0 (.ops all (⟨some d, .load t x, ty, pos, af, none⟩ :: rest) :: s) G L M := W.of fun a w E S => by
  obtain ⟨_, cs, h1, h2⟩ := hR.open hj
  have e : xs[j] = xs.getD j [] := by simp [List.getD_eq_getElem?_getD, List.getElem?_eq_getElem hj]
  rw [e] at h1
  obtain ⟨v, rfl, A', c', rfl, hc, hR'⟩ := h1
  exact o_ldI (j := 0) E hN S hx (tb_sc h ht) (h2.le hl.le) rfl rfl fun a' E' => (k A' c' hR' hc).run a' w E' S
end
end Go.Proofs.YtngoaapgdfohjaaGreatDoor.X

set_option linter.unusedVariables false
set_option linter.unusedSimpArgs false
namespace Go.Proofs.YtngoaapgdfohjaaGreatDoor.X
open Go
/-! ## Calls at heaps that have grown -/
/-- What a call ends in, told of a greater heap. -/
theorem Ends.join {w : World} {G G1 : Heap} {K : List Nat} {R : Value → Heap → Chunk → Prop} (hm : ∀ v A B C, Heap.le A B → R v A C → R v B C) (hl : Heap.le G G1) (hs : Sub G1 w) (hk : ∀ b ∈ K, G1 b = none) {e : Ending} {w' : World}
    (h : Ends w G K R (fun _ _ _ => False) e w') (hsep : ∀ G' M', Aft w G K w' G' M' → ∀ p ∈ M', G1 p.1 = none) : Ends w G1 K R (fun _ _ _ => False) e w' := by
  cases e with
  | returned v =>
    obtain ⟨G', M', ha, hr⟩ := h
    have old : ∀ b o, G1 b = some o → w'.heap[b]? = some o := fun b o hb => by
      rw [ha.kept b (hs.lt hb) (fun hK => by rw [hk b hK] at hb; cases hb)]; exact hs b o hb
    let G2 : Heap := fun b => match G1 b with
      | some o => some o
      | none => G' b
    have h1 : Heap.le G1 G2 := fun b o hb => by show (match G1 b with | some o => some o | none => G' b) = some o; rw [hb]
    have h2 : Heap.le G' G2 := fun b o hb => by
      show (match G1 b with | some o => some o | none => G' b) = some o
      cases hg : G1 b with
      | none => exact hb
      | some o' =>
        have a1 := old b o' hg
        have a2 := ha.sub b o hb
        rw [a1] at a2
        exact a2
    have hsub : ∀ b o, G2 b = some o → G1 b = some o ∨ (G1 b = none ∧ G' b = some o) := fun b o hb => by
      have hb' : (match G1 b with | some o => some o | none => G' b) = some o := hb
      cases hg : G1 b with
      | none => rw [hg] at hb'; exact .inr ⟨rfl, hb'⟩
      | some o' => rw [hg] at hb'; exact .inl hb'
    refine ⟨G2, M', { os := ha.os, tape := ha.tape, output := ha.output, size := ha.size, kept := ha.kept, le := h1, new := fun b o hb => ?_, sub := fun b o hb => ?_, mem := ha.mem, sep := fun p hp => ?_, own := ha.own, nodup := ha.nodup }, hm _ _ _ _ h2 hr⟩
    · rcases hsub b o hb with h | ⟨h0, h⟩
      · exact .inl h
      · rcases ha.new b o h with h3 | h3
        · rw [hl b o h3] at h0; cases h0
        · exact .inr h3
    · rcases hsub b o hb with h | ⟨_, h⟩
      · exact old b o h
      · exact ha.sub b o h
    · show (match G1 p.1 with | some o => some o | none => G' p.1) = none
      rw [hsep G' M' ha p hp]
      exact ha.sep p hp
  | panicked c => obtain ⟨_, _, _, hf⟩ := h; exact hf.elim
  | outgrown => exact h.elim
section
variable {P : Program} {Q0 : Exit → Act → World → Prop} {N : Nat} {D : List Deferred} {w0 : World} {G0 : Heap} {K0 : List Nat} {s : List Itm} {G G1 : Heap} {L L' : List (Nat × Value)} {M M' R0 : List Chunk} {ops all : Array Oper} {o : Oper} {d : Nat} {v : Value} {rest : List Oper}
variable {ty : TypeId} {pos : String} {af : Array Edge}
/-- An operation whose value is told by a property. -/
structure StpR (P : Program) (N : Nat) (D : List Deferred) (w0 : World) (G0 : Heap) (K0 : List Nat) (ops : Array Oper) (G : Heap) (L : List (Nat × Value)) (M : List Chunk) (o : Oper) (d : Nat) (F : Value → Heap → Prop) : Prop where
  dst : o.dst = some d
  mono : ∀ v A B, Heap.le A B → F v A → F v B
  run : ∀ (Q : Exit → Act → World → Prop) (rest : List Oper) (a : Act) (w : World) (G1 : Heap), Heap.le G G1 → Env a N D L → St w0 G0 K0 G1 w M →
    (∀ a' w' G2 v, Heap.le G1 G2 → F v G2 → Env a' N D ((d, v) :: L) → St w0 G0 K0 G2 w' M → wpList P ops Q rest a' w') → wpList P ops Q (o :: rest) a w
theorem r_call {f : Nat} {x : Operand} {xs : Array Operand} {ats : Array TypeId} {us vs cs : List Value} {R : Value → Heap → Prop} [g : GoF P f] (hm : ∀ v A B, Heap.le A B → R v A → R v B) (hN : Nat.blt d N = true) (hx : ev L x = some (.func (.func f) us.toArray cs.toArray)) (hv : evs L xs.toList = some vs) (hc : FnR P f (us ++ vs ++ cs) G R) :
    StpR P N D w0 G0 K0 ops G L M ⟨some d, .call ⟨.value x, xs, ats⟩, ty, pos, af, none⟩ d R :=
  ⟨rfl, hm, fun Q rest a w G1 hl E S k => o_call E hN S hx hv g.h ((hc w (fun b o hb => S.sub b o (hl b o hb))).mono fun e w' h =>
    Ends.join (fun v A B C hAB h => ⟨h.1, hm v A B hAB h.2⟩) hl S.sub (by simp) h (fun G' M' ha p hp => by
      rcases ha.own p hp with h1 | h1
      · cases hg : G1 p.1 with
        | none => rfl
        | some o => have := S.sub.lt hg; omega
      · cases h1)) fun v G2 w' a' S' hl2 hr E' => k a' w' G2 v hl2 hr E' S'⟩
/-- A call that is handed own blocks, and leaves them as they were. -/
theorem p_callM {f : Nat} {x : Operand} {xs : Array Operand} {ats : Array TypeId} {us vs cs : List Value} {Ms : List Chunk} {r : Value} [g : GoF P f] (hN : Nat.blt d N = true) (hx : ev L x = some (.func (.func f) us.toArray cs.toArray)) (hv : evs L xs.toList = some vs) (hc : FnM P f (us ++ vs ++ cs) G Ms (fun v _ Ms' => v = r ∧ Ms' = Ms)) (hs : Sel M Ms R0) :
    Stp P N D w0 G0 K0 ops G L M ⟨some d, .call ⟨.value x, xs, ats⟩, ty, pos, af, none⟩ d r :=
  ⟨rfl, fun Q rest a w G1 hl E S k => by
    have S1 := S.sel hs
    have hkeys : ∀ b ∈ keys Ms.flatten, G1 b = none := fun b hb => by
      obtain ⟨p, hp, rfl⟩ := List.mem_map.1 hb
      exact S1.sep p (by rw [List.flatten_append]; exact List.mem_append_left _ hp)
    have S2 : St w G (keys (Ms ++ R0).flatten) G w (Ms ++ R0) := (St.start (C := (Ms ++ R0).flatten) (fun b o hb => S1.sub b o (hl b o hb)) S1.mem (fun p hp => by
      cases hg : G p.1 with
      | none => rfl
      | some o => rw [← S1.sep p hp, hl _ _ hg]) S1.nodup).perm (by simp)
    have hcall : Calls P f (us ++ vs ++ cs).toArray w (Ends w G1 (keys Ms.flatten) (fun v _ C' => ∃ Ms', C' = Ms'.flatten ∧ v = r ∧ Ms' = Ms) (fun _ _ _ => False)) :=
      (hc w S2).mono fun e w' h => Ends.join (fun v A B C _ h => h) hl S.sub hkeys h fun G' M' ha p hp => by
        rcases ha.own p hp with h1 | h1
        · cases hg : G1 p.1 with
          | none => rfl
          | some o => have := S.sub.lt hg; omega
        · exact hkeys _ h1
    exact o_callMs Ms E hN S1 hx hv g.h hcall fun v G2 C' w' a' S' hl2 hr E' => by
      obtain ⟨Ms', rfl, rfl, rfl⟩ := hr
      exact k a' w' G2 hl2 E' (S'.unflat.perm (flat_perm hs.perm))⟩
/-- The walk of a region that draws, with calls whose values are told by properties. -/
inductive DC (P : Program) (N : Nat) (D : List Deferred) (w0 : World) (G0 : Heap) (K0 : List Nat) (ops : Array Oper) (G : Heap) (M : List Chunk) (Kp : List (Nat × Value) → List (Nat × (Value → Heap → Prop)) → Prop) : List Oper → List (Nat × Value) → List (Nat × (Value → Heap → Prop)) → Prop where
  | nil {L : List (Nat × Value)} {F : List (Nat × (Value → Heap → Prop))} (h : Kp L F) : DC P N D w0 G0 K0 ops G M Kp [] L F
  | cons {o : Oper} {rest : List Oper} {L : List (Nat × Value)} {F : List (Nat × (Value → Heap → Prop))} {d : Nat} {v : Value} (h : Stp P N D w0 G0 K0 ops G (resE L (tmpsOf ops o)) M o d v) (k : DC P N D w0 G0 K0 ops G M Kp rest ((d, v) :: L) F) : DC P N D w0 G0 K0 ops G M Kp (o :: rest) L F
  | call {o : Oper} {rest : List Oper} {L : List (Nat × Value)} {F : List (Nat × (Value → Heap → Prop))} {d : Nat} {R : Value → Heap → Prop} (h : StpR P N D w0 G0 K0 ops G (resE L (tmpsOf ops o)) M o d R) (k : DC P N D w0 G0 K0 ops G M Kp rest L ((d, R) :: F)) : DC P N D w0 G0 K0 ops G M Kp (o :: rest) L F
  | dep {o : Oper} {rest : List Oper} {L : List (Nat × Value)} {F : List (Nat × (Value → Heap → Prop))} {d : Nat} {R : Value → Heap → Prop} (t : Nat) (Rt : Value → Heap → Prop) (hF : (t, Rt) ∈ F) (hr : (tmpsOf ops o).elem t = true) (hm : ∀ v A B, Heap.le A B → R v A → R v B) (hd : o.dst = some d) (h : ∀ v G1, Heap.le G G1 → Rt v G1 → StpR P N D w0 G0 K0 ops G1 ((t, v) :: resE L (tmpsOf ops o)) M o d R) (k : DC P N D w0 G0 K0 ops G M Kp rest L ((d, R) :: F)) : DC P N D w0 G0 K0 ops G M Kp (o :: rest) L F
def isV (u : Value) : Value → Heap → Prop := fun v _ => v = u
theorem DC.told (Q : Exit → Act → World → Prop) {l : List Oper} {Kp : List (Nat × Value) → List (Nat × (Value → Heap → Prop)) → Prop} {L0 : List (Nat × Value)} {h' : List Oper} (hr : readsOk h' l = true) (tl : List Oper) :
    ∀ (rest pre : List Oper) (vsp : List (Value → Heap → Prop)) (Lk : List (Nat × Value)) (Fk : List (Nat × (Value → Heap → Prop))), l = pre ++ (rest ++ tl) → ((∀ o ∈ rest, o ∈ h') ∧ pre.length + rest.length ≤ h'.length) → vsp.length = pre.length →
      (∀ t u, lk Lk t = some u → (∃ j, j < pre.length ∧ dstOf l.toArray j = some t ∧ vsp[j]? = some (isV u)) ∨ lk L0 t = some u) →
      (∀ x ∈ Fk, ∃ j, j < pre.length ∧ dstOf l.toArray j = some x.1 ∧ vsp[j]? = some x.2) →
      DC P N D w0 G0 K0 l.toArray G M Kp rest Lk Fk →
      ∃ (vsr : List (Value → Heap → Prop)) (L' : List (Nat × Value)) (F' : List (Nat × (Value → Heap → Prop))), vsr.length = rest.length ∧ Kp L' F' ∧
        (∀ t u, lk L' t = some u → (∃ j, dstOf l.toArray j = some t ∧ (vsp ++ vsr)[j]? = some (isV u)) ∨ lk L0 t = some u) ∧
        (∀ x ∈ F', ∃ j, dstOf l.toArray j = some x.1 ∧ (vsp ++ vsr)[j]? = some x.2) ∧
        ∀ (i : Nat) (o : Oper), rest[i]? = some o → ∃ p, vsr[i]? = some p ∧ (∀ v A B, Heap.le A B → p v A → p v B) ∧ ∀ (a : Act) (w : World) (G' : Heap), Heap.le G G' → St w0 G0 K0 G' w M → Env a N D L0 →
          (∀ j dj q, (ons o).elem j = true → dstOf l.toArray j = some dj → (vsp ++ vsr)[j]? = some q → ∃ v, a.tmps[dj]? = some v ∧ q v G') →
          wpList P l.toArray (Exit.then (fun a' w' => ∃ v G2 d, Heap.le G' G2 ∧ St w0 G0 K0 G2 w' M ∧ o.dst = some d ∧ a'.tmps[d]? = some v ∧ a'.defers = D ∧ p v G2) Q) [o] a w
  | [], pre, vsp, Lk, Fk, hl, hh, hv, hi, hF, h => by
    cases h with
    | nil h => exact ⟨[], Lk, Fk, rfl, h, fun t u ht => (hi t u ht).imp (fun ⟨j, _, h1, h2⟩ => ⟨j, h1, by simpa using h2⟩) id, fun x hx => by obtain ⟨j, _, h1, h2⟩ := hF x hx; exact ⟨j, h1, by simpa using h2⟩, fun i o ho => by simp at ho⟩
  | o :: rest, pre, vsp, Lk, Fk, hl, hh, hv, hi, hF, h => by
    have envOf : ∀ (vsr : List (Value → Heap → Prop)) (a : Act) (w : World) (G' : Heap), Env a N D L0 → (∀ j dj q, (ons o).elem j = true → dstOf l.toArray j = some dj → (vsp ++ vsr)[j]? = some q → ∃ v, a.tmps[dj]? = some v ∧ q v G') → Env a N D (resE Lk (tmpsOf l.toArray o)) := by
      intro vsr a w G' E hw
      refine ⟨E.size, E.defers, fun t u ht => ?_⟩
      obtain ⟨m1, m2⟩ := resE_get ht
      rcases hi t u m2 with ⟨j, h0, h1, h2⟩ | h1
      · obtain ⟨v, hv1, hv2⟩ := hw j t (isV u) (readsOk_spec hr (hh.1 _ List.mem_cons_self) m1 (by have := hh.2; omega) h1) h1 (by rw [List.getElem?_append_left (by omega)]; exact h2)
        rw [hv1, show v = u from hv2]
      · exact E.get t u h1
    have hk : l[pre.length]? = some o := by rw [hl]; simp
    cases h with
    | @cons _ _ _ _ d v h k =>
      have hd := h.dst
      have hdk : dstOf l.toArray pre.length = some d := by unfold dstOf; simp [hk, hd]
      obtain ⟨vsr, L', F', e1, e2, e3, e5, e4⟩ := DC.told Q hr tl rest (pre ++ [o]) (vsp ++ [isV v]) ((d, v) :: Lk) Fk (by rw [hl]; simp) ⟨fun o ho => hh.1 o (List.mem_cons_of_mem _ ho), by have := hh.2; simp at this ⊢; omega⟩ (by simp [hv]) (by
        intro t u ht
        rcases lk_cons ht with ⟨rfl, rfl⟩ | ⟨_, ht⟩
        · exact .inl ⟨pre.length, by simp, hdk, by simp [← hv]⟩
        · refine (hi t u ht).imp (fun ⟨j, h0, h1, h2⟩ => ⟨j, by simp; omega, h1, ?_⟩) id
          rw [List.getElem?_append_left (by omega)]; exact h2) (fun x hx => by
        obtain ⟨j, h0, h1, h2⟩ := hF x hx
        exact ⟨j, by simp; omega, h1, by rw [List.getElem?_append_left (by omega)]; exact h2⟩) k
      refine ⟨isV v :: vsr, L', F', by simp [e1], e2, fun t u ht => by simpa using e3 t u ht, fun x hx => by simpa using e5 x hx, fun i o' ho' => ?_⟩
      cases i with
      | succ i =>
        obtain ⟨v', g1, g0, g2⟩ := e4 i o' (by simpa using ho')
        exact ⟨v', by simpa using g1, g0, by simpa using g2⟩
      | zero =>
        simp only [List.getElem?_cons_zero, Option.some.injEq] at ho'
        subst ho'
        refine ⟨isV v, rfl, fun _ _ _ _ h => h, fun a w G' hle S E hw => ?_⟩
        exact h.run _ [] a w G' hle (envOf _ a w G' E hw) S (fun a' w' G2 h2 E2 S2 => ⟨v, G2, d, h2, S2, hd, E2.get d v (by simp [lk]), E2.defers, rfl⟩)
    | @call _ _ _ _ d R h k =>
      have hd := h.dst
      have hdk : dstOf l.toArray pre.length = some d := by unfold dstOf; simp [hk, hd]
      obtain ⟨vsr, L', F', e1, e2, e3, e5, e4⟩ := DC.told Q hr tl rest (pre ++ [o]) (vsp ++ [R]) Lk ((d, R) :: Fk) (by rw [hl]; simp) ⟨fun o ho => hh.1 o (List.mem_cons_of_mem _ ho), by have := hh.2; simp at this ⊢; omega⟩ (by simp [hv]) (by
        intro t u ht
        refine (hi t u ht).imp (fun ⟨j, h0, h1, h2⟩ => ⟨j, by simp; omega, h1, ?_⟩) id
        rw [List.getElem?_append_left (by omega)]; exact h2) (fun x hx => by
        rcases List.mem_cons.1 hx with rfl | hx
        · exact ⟨pre.length, by simp, hdk, by simp [← hv]⟩
        · obtain ⟨j, h0, h1, h2⟩ := hF x hx
          exact ⟨j, by simp; omega, h1, by rw [List.getElem?_append_left (by omega)]; exact h2⟩) k
      refine ⟨R :: vsr, L', F', by simp [e1], e2, fun t u ht => by simpa using e3 t u ht, fun x hx => by simpa using e5 x hx, fun i o' ho' => ?_⟩
      cases i with
      | succ i =>
        obtain ⟨v', g1, g0, g2⟩ := e4 i o' (by simpa using ho')
        exact ⟨v', by simpa using g1, g0, by simpa using g2⟩
      | zero =>
        simp only [List.getElem?_cons_zero, Option.some.injEq] at ho'
        subst ho'
        refine ⟨R, rfl, h.mono, fun a w G' hle S E hw => ?_⟩
        exact h.run _ [] a w G' hle (envOf _ a w G' E hw) S (fun a' w' G2 v h2 hF2 E2 S2 => ⟨v, G2, d, h2, S2, hd, E2.get d v (by simp [lk]), E2.defers, hF2⟩)
    | @dep _ _ _ _ d R t Rt hFt hrt hmono hd h k =>
      have hdk : dstOf l.toArray pre.length = some d := by unfold dstOf; simp [hk, hd]
      obtain ⟨vsr, L', F', e1, e2, e3, e5, e4⟩ := DC.told Q hr tl rest (pre ++ [o]) (vsp ++ [R]) Lk ((d, R) :: Fk) (by rw [hl]; simp) ⟨fun o ho => hh.1 o (List.mem_cons_of_mem _ ho), by have := hh.2; simp at this ⊢; omega⟩ (by simp [hv]) (by
        intro t u ht
        refine (hi t u ht).imp (fun ⟨j, h0, h1, h2⟩ => ⟨j, by simp; omega, h1, ?_⟩) id
        rw [List.getElem?_append_left (by omega)]; exact h2) (fun x hx => by
        rcases List.mem_cons.1 hx with rfl | hx
        · exact ⟨pre.length, by simp, hdk, by simp [← hv]⟩
        · obtain ⟨j, h0, h1, h2⟩ := hF x hx
          exact ⟨j, by simp; omega, h1, by rw [List.getElem?_append_left (by omega)]; exact h2⟩) k
      refine ⟨R :: vsr, L', F', by simp [e1], e2, fun t u ht => by simpa using e3 t u ht, fun x hx => by simpa using e5 x hx, fun i o' ho' => ?_⟩
      cases i with
      | succ i =>
        obtain ⟨v', g1, g0, g2⟩ := e4 i o' (by simpa using ho')
        exact ⟨v', by simpa using g1, g0, by simpa using g2⟩
      | zero =>
        simp only [List.getElem?_cons_zero, Option.some.injEq] at ho'
        subst ho'
        refine ⟨R, rfl, hmono, fun a w G' hle S E hw => ?_⟩
        obtain ⟨jt, ht0, ht1, ht2⟩ := hF _ hFt
        have hon := readsOk_spec hr (hh.1 _ List.mem_cons_self) (List.mem_of_elem_eq_true hrt) (by have := hh.2; omega) ht1
        obtain ⟨vt, hv1, hv2⟩ := hw jt t Rt hon ht1 (by rw [List.getElem?_append_left (by omega)]; exact ht2)
        exact (h vt G' hle hv2).run _ [] a w G' (Heap.le.refl _) ((envOf _ a w G' E hw).add hv1) S (fun a' w' G2 v h2 hF2 E2 S2 => ⟨v, G2, d, h2, S2, hd, E2.get d v (by simp [lk]), E2.defers, hF2⟩)
theorem Stp.toR {v : Value} (h : Stp P N D w0 G0 K0 ops G L M o d v) : StpR P N D w0 G0 K0 ops G L M o d (isV v) :=
  ⟨h.dst, fun _ _ _ _ h => h, fun Q rest a w G1 hl E S k => h.run Q rest a w G1 hl E S fun a' w' G2 hl2 E' S' => k a' w' G2 v hl2 rfl E' S'⟩
/-- What goes on behind a region whose calls' values are told by properties. -/
def KC (K : List (Nat × Value) → Heap → Prop) (G' : Heap) : List (Nat × Value) → List (Nat × (Value → Heap → Prop)) → Prop
  | L, [] => K L G'
  | L, (t, R) :: F => ∀ v, R v G' → KC K G' ((t, v) :: L) F
theorem KC.get {K : List (Nat × Value) → Heap → Prop} {G' : Heap} {a : Act} : ∀ {F : List (Nat × (Value → Heap → Prop))} {L : List (Nat × Value)}, KC K G' L F → Env a N D L → (∀ x ∈ F, ∃ v, a.tmps[x.1]? = some v ∧ x.2 v G') → ∃ L', K L' G' ∧ Env a N D L'
  | [], L, h, E, _ => ⟨L, h, E⟩
  | (t, R) :: F, L, h, E, hx => by
    obtain ⟨v, h1, h2⟩ := hx (t, R) List.mem_cons_self
    exact KC.get (h v h2) (E.add h1) fun x hx' => hx x (List.mem_cons_of_mem _ hx')
theorem w_dc (n : Nat) {id : Nat} {l : List Oper} [m : Mix P] (hb : (backOk l.toArray && (readsOk (l.take n) l && seqB l n)) = true)
    (h : DC P N D w0 G0 K0 l.toArray G M (fun L' F' => ∀ G', Le1 G G' → KC (fun L2 G2 => W P Q0 N D w0 G0 K0 (.ops l.toArray (l.drop n) :: s) G2 L2 M) G' L' F') (l.take n) L []) (hf : freshF (l.take n) L [] = true := by exact rfl) : W P Q0 N D w0 G0 K0 (.co (.region id l.toArray true) :: s) G L M := by
  refine W.of fun a w E S => ?_
  rw [Bool.and_eq_true, Bool.and_eq_true] at hb
  obtain ⟨vs, L', F', e1, e2, e3, e5, e4⟩ := DC.told (aft P Q0 s) hb.2.1 (l.drop n) (l.take n) [] [] L [] (by simp) ⟨fun _ h => h, by simp⟩ rfl (fun t u h => .inr h) (by simp) h
  simp only [List.nil_append] at e3 e4 e5
  refine drawnSeq n (fun _ G' w => Heap.le G G' ∧ St w0 G0 K0 G' w M) vs m.h hb.1 hb.2.2 E ⟨Heap.le.refl _, S.drew⟩ hf (fun p hp v A B hAB h => ?_) ?_ ?_
  · obtain ⟨i, hi⟩ := List.mem_iff_getElem?.1 hp
    have hi' : i < (l.take n).length := by rw [← e1]; exact (List.getElem?_eq_some_iff.1 hi).1
    obtain ⟨q, g1, g0, _⟩ := e4 i (l.take n)[i] (List.getElem?_eq_getElem hi')
    rw [hi] at g1
    cases g1
    exact g0 v A B hAB h
  · have key : ∀ (r : List Oper) (us : List (Value → Heap → Prop)) (k : Nat), us.length = r.length → (∀ (i : Nat) (o : Oper), r[i]? = some o → ∃ p, us[i]? = some p ∧ (∀ v A B, Heap.le A B → p v A → p v B) ∧ ∀ (a : Act) (w : World) (G' : Heap), Heap.le G G' → St w0 G0 K0 G' w M → Env a N D L →
          (∀ j dj q, (ons o).elem j = true → dstOf l.toArray j = some dj → vs[j]? = some q → ∃ v, a.tmps[dj]? = some v ∧ q v G') →
          wpList P l.toArray (Exit.then (fun a' w' => ∃ v G2 d, Heap.le G' G2 ∧ St w0 G0 K0 G2 w' M ∧ o.dst = some d ∧ a'.tmps[d]? = some v ∧ a'.defers = D ∧ p v G2) (aft P Q0 s)) [o] a w) →
        AllF (StepF P (aft P Q0 s) N D L (fun _ G' w => Heap.le G G' ∧ St w0 G0 K0 G' w M) l vs []) k r us := by
      intro r
      induction r with
      | nil => intro us k hu _; cases us with
        | nil => trivial
        | cons _ _ => simp at hu
      | cons o r ih =>
        intro us k hu hx
        cases us with
        | nil => simp at hu
        | cons u us =>
          obtain ⟨v, g1, _, g2⟩ := hx 0 o rfl
          simp only [List.getElem?_cons_zero, Option.some.injEq] at g1
          subst g1
          refine ⟨fun a w G' f hc hfi hon hW E' hv hO => ?_, ih us (k + 1) (by simpa using hu) (fun i o' ho' => by simpa using hx (i + 1) o' (by simpa using ho'))⟩
          refine wpList_mono (fun e a' w' he => ?_) (g2 a w G' hW.1 hW.2 E' (fun j dj q hj hdj hq => hv j dj q (hon j hj) hdj hq))
          cases e with
          | normal =>
            obtain ⟨v, G2, d, h1, h2, h3, h4, h5, h6⟩ := he
            exact ⟨v, G2, h1, ⟨hW.1.trans h1, h2⟩, fun d' hd' => by rw [h3] at hd'; cases hd'; exact h4, h5, h6⟩
          | _ => exact he
    exact key (l.take n) vs 0 e1 e4
  · intro a w G' f hle hall hW E' hv
    obtain ⟨L2, hK, E2⟩ := KC.get (a := a) (N := N) (D := D) (e2 G' ⟨hle⟩) ⟨E'.size, E'.defers, fun t u ht => by
      rcases e3 t u ht with ⟨j, h1, h2⟩ | h1
      · obtain ⟨x, hx1, hx2⟩ := hv j t (isV u) h1 h2
        rw [hx1, show x = u from hx2]
      · exact E'.get t u h1⟩ (fun x hx => by
      obtain ⟨j, h1, h2⟩ := e5 x hx
      exact hv j x.1 x.2 h1 h2)
    exact hK.run a w E2 hW.2
end
end Go.Proofs.YtngoaapgdfohjaaGreatDoor.X
