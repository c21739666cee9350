/- A line printed and read again: plain laws. -/
import Derived.Test.YtiinipcmghhacaaGreatDoorZF3
import Derived.Laws.BitsLemmas
set_option linter.unusedVariables false
set_option linter.unusedSimpArgs false
namespace Go.Proofs.YtiinipcmghhacaaGreatDoor.T10
open Go Go.Proofs.YtiinipcmghhacaaGreatDoor.X

/-! What Great counts. -/
def W64 (n : Int) : Int := IntKind.i64.wrap n
theorem wr64 (n : Int) : I64 (IntKind.i64.wrap n) := by
  rw [IntKind.wrap_i64]
  exact ⟨by omega, by omega⟩
theorem wr_in {n : Int} (h : -9223372036854775808 ≤ n ∧ n ≤ 9223372036854775807) : IntKind.i64.wrap n = n := wrap_i64 h
def accG : Int → List Val → Int
  | n, [] => n
  | n, v :: vs => if n ≤ 2000 then accG (IntKind.i64.wrap (n + 1 + (v.s.length : Int))) vs else n
def startG (e : Evt) : Int := IntKind.i64.wrap (IntKind.i64.wrap ((e.client.s.length : Int) + (e.key.s.length : Int)) + (e.note.length : Int))
def greatE (e : Evt) : Bool := decide (2000 < accG (accG (startG e) e.args) e.out)
theorem accG_step {n : Int} {l : List Val} {i : Nat} (hi : i < l.length) (hn : n ≤ 2000) : accG n (l.drop i) = accG (IntKind.i64.wrap (n + 1 + ((l.getD i ⟨0, 0, []⟩).s.length : Int))) (l.drop (i + 1)) := by
  rw [List.drop_eq_getElem_cons hi, accG, if_pos hn]
  simp [hi]
theorem accG_end {n : Int} {l : List Val} {i : Nat} (h : ¬ (i < l.length ∧ n ≤ 2000)) : accG n (l.drop i) = n := by
  by_cases hi : i < l.length
  · rw [List.drop_eq_getElem_cons hi, accG, if_neg (fun hn => h ⟨hi, hn⟩)]
  · rw [List.drop_eq_nil_of_le (by omega), accG]
theorem accG_big {l : List Val} (hl : ∀ v ∈ l, v.s.length ≤ 40) : ∀ {n : Int}, 0 ≤ n → n ≤ 3000 → accG n l ≤ 2000 → n + l.length ≤ accG n l := by
  induction l with
  | nil => intro n _ _ _; simp [accG]
  | cons v vs ih =>
    intro n h0 h1 h
    unfold accG at h ⊢
    split at h
    · rename_i hn
      rw [if_pos hn]
      have hv := hl v List.mem_cons_self
      rw [wr_in (by omega)] at h ⊢
      have := ih (fun x hx => hl x (List.mem_cons_of_mem _ hx)) (n := n + 1 + (v.s.length : Int)) (by omega) (by omega) h
      simp only [List.length_cons]
      omega
    · omega
theorem rightV_len {v : Val} (h : rightV v = true) : v.s.length ≤ 40 := by
  unfold rightV at h
  split at h
  · simp only [Bool.and_eq_true, beq_iff_eq] at h; rw [h.2]; decide
  split at h
  · simp only [beq_iff_eq] at h; rw [h]; decide
  split at h
  · simp only [isWordB, Bool.and_eq_true, decide_eq_true_eq] at h; exact h.2.1.2
  split at h
  · simp only [Bool.and_eq_true, beq_iff_eq] at h; rw [h.2]; decide
  · cases h
theorem fits_right : ∀ {ds : List Int} {l : List Val}, fitsL ds l = true → ∀ v ∈ l, rightV v = true
  | [], [], _, v, hv => by cases hv
  | d :: ds, x :: vs, h, v, hv => by
    rw [fitsL, Bool.and_eq_true] at h
    rcases List.mem_cons.1 hv with rfl | hv
    · exact takes_right h.1
    · exact fits_right h.2 v hv
  | [], _ :: _, h, _, _ => by cases h
  | _ :: _, [], h, _, _ => by cases h
theorem right_vals {e : Evt} (h : rightE e = true) : (∀ v ∈ e.args, rightV v = true) ∧ ∀ v ∈ e.out, rightV v = true := by
  by_cases ht : e.type = 1
  · obtain ⟨_, _, h3, h4⟩ := right_inv h ht
    exact ⟨fits_right h3, by rw [h4]; intro v hv; cases hv⟩
  · obtain ⟨_, _, _, h4, h5, _⟩ := right_end h ht
    exact ⟨by rw [h4]; (intro v hv; cases hv), fun v hv => List.all_eq_true.1 h5 v hv⟩
theorem right_key {e : Evt} (h : rightE e = true) : e.client.s.length ≤ 40 ∧ e.key.s.length ≤ 40 ∧ e.note.length ≤ 100 := by
  obtain ⟨_, h2, h3⟩ := right_head h
  refine ⟨rightV_len (takes_right h2), ?_, ?_⟩
  · by_cases ht : e.type = 1
    · exact rightV_len (takes_right (right_inv h ht).2.1)
    · rw [(right_end h ht).2.2.1]; decide
  · simp only [notedB, Bool.and_eq_true, decide_eq_true_eq] at h3; omega
theorem great_out {e : Evt} (h : rightE e = true) (hg : greatE e = false) : e.out.length ≤ 2000 := by
  have hk := right_key h
  have ha := right_args h
  have hv := right_vals h
  have hs : startG e = (e.client.s.length : Int) + e.key.s.length + e.note.length := by
    unfold startG
    rw [wr_in (n := (e.client.s.length : Int) + (e.key.s.length : Int)) (by omega), wr_in (by omega)]
  have h1 : ∀ {n : Int} {l : List Val}, (∀ v ∈ l, v.s.length ≤ 40) → l.length ≤ 2 → 0 ≤ n → n ≤ 180 → 0 ≤ accG n l ∧ accG n l ≤ 3000 := by
    intro n l hl hll h0 h1
    match l, hll with
    | [], _ => exact ⟨h0, by show n ≤ _; omega⟩
    | [x], _ =>
      have := hl x (by simp)
      rw [accG, if_pos (by omega), wr_in (by omega), accG]; omega
    | [x, y], _ =>
      have := hl x (by simp)
      have := hl y (by simp)
      rw [accG, if_pos (by omega), wr_in (by omega), accG, if_pos (by omega), wr_in (by omega), accG]; omega
  have h2 := h1 (n := startG e) (fun v hv2 => rightV_len (hv.1 v hv2)) ha (by omega) (by omega)
  unfold greatE at hg
  have h3 := of_decide_eq_false hg
  have := accG_big (fun v hv2 => rightV_len (hv.2 v hv2)) h2.1 h2.2 (by omega)
  omega
/-! An event printed and read again. -/
def okC (x : Bs) : Bool := !(x == []) && x.all fun b => !(b == 32) && !(b == 59)
theorem okC_mem {x : Bs} (h : okC x = true) : x ≠ [] ∧ 32 ∉ x ∧ 59 ∉ x := by
  unfold okC at h
  simp only [Bool.and_eq_true, Bool.not_eq_true', beq_eq_false_iff_ne, ne_eq, List.all_eq_true] at h
  exact ⟨h.1, fun h2 => (h.2 _ h2).1 rfl, fun h2 => (h.2 _ h2).2 rfl⟩
theorem okC_itoa (n : Int) : okC (Lib.itoa n) = true := by
  have hd : ∀ k : Nat, okC (dd k) = true := by
    intro k
    have h1 := dd_digits k
    have h2 := digits_all h1
    have h3 := digits_pos h1
    unfold okC
    simp only [Bool.and_eq_true, Bool.not_eq_true', beq_eq_false_iff_ne, ne_eq, List.all_eq_true]
    refine ⟨fun e => by rw [e] at h3; simp at h3, fun b hb => ?_⟩
    have h4 := List.all_eq_true.1 h2 b hb
    simp only [digB, Bool.and_eq_true, decide_eq_true_eq] at h4
    constructor
    · rintro rfl; revert h4; decide
    · rintro rfl; revert h4; decide
  by_cases h : 0 ≤ n
  · rw [itoa_nn h]; exact hd _
  · rw [itoa_ng (by omega)]
    have h1 := hd n.natAbs
    unfold okC at h1 ⊢
    simp only [Bool.and_eq_true] at h1
    simp [h1.2]
theorem okC_print {v : Val} (h : rightV v = true) : okC (printV v) = true := by
  unfold printV
  rw [if_neg (by simp [h])]
  split
  · decide
  split
  · exact okC_itoa _
  split
  · rename_i h0 h1 h2
    unfold rightV at h
    rw [if_neg h0, if_neg h1, if_pos h2] at h
    simp only [isWordB, Bool.and_eq_true, decide_eq_true_eq, List.all_eq_true] at h
    unfold okC
    simp only [Bool.and_eq_true, Bool.not_eq_true', beq_eq_false_iff_ne, ne_eq, List.all_eq_true]
    refine ⟨fun e => by rw [e] at h; have := h.2.1.1; simp at this, fun b hb => ?_⟩
    have h4 := h.2.2.2 b hb
    simp only [letterB, lowB, Bool.or_eq_true, Bool.and_eq_true, decide_eq_true_eq, Bool.not_false, Bool.true_and] at h4
    constructor
    · rintro rfl; revert h4; decide
    · rintro rfl; revert h4; decide
  split
  · decide
  · decide
theorem row_ok : ∀ r ∈ rowsT, (modelS (mnameS r.model) = (r.model, true) ∧ opS (onameS r.op) = (r.op, true)) ∧ okC (mnameS r.model) = true ∧ okC (onameS r.op) = true := by decide +kernel
theorem args_row {m o : Int} (h : (argsD m o).2 = true) : (modelS (mnameS m) = (m, true) ∧ opS (onameS o) = (o, true)) ∧ okC (mnameS m) = true ∧ okC (onameS o) = true := by
  unfold argsD at h
  split at h
  · rename_i h1
    unfold findS at h1
    split at h1
    · rename_i r hr
      have hm := List.mem_of_find?_eq_some hr
      have hp := List.find?_some hr
      simp only [isRow, Bool.and_eq_true, decide_eq_true_eq] at hp
      have := row_ok r hm
      rwa [hp.1, hp.2] at this
    · cases h1
  · cases h
theorem type_ok {t : Int} (h : 1 ≤ t ∧ t ≤ 4) : typedS (namedW.getD t.toNat []) = (t, true) ∧ okC (namedW.getD t.toNat []) = true := by
  have : t = 1 ∨ t = 2 ∨ t = 3 ∨ t = 4 := by omega
  rcases this with rfl | rfl | rfl | rfl <;> decide
theorem count_of {n : Int} (h : 0 ≤ n ∧ n ≤ 9223372036854775807) : countS (Lib.itoa n) 9223372036854775807 = .ok n := by
  have hd : digitsB (Lib.itoa n) = true := by rw [itoa_nn h.1]; exact dd_digits _
  rw [count_digits hd, parse_itoa (by omega)]
  exact if_neg (by show ¬ (¬ (0 : Int) = 0 ∨ 9223372036854775807 < n); omega)
theorem value_of {d : Int} {v : Val} {r : List Bs} (hn : I64 v.n) (h : takesB d v = true) : valueS d (printV v :: r) 0 = (v, r, 0) := by
  rw [valueS_cons, parse_print hn (takes_right h)]
  dsimp only
  rw [if_neg (by rw [h]; simp)]
theorem args_of : ∀ {ds : List Int} {l : List Val} {r : List Bs}, fitsL ds l = true → (∀ v ∈ l, I64 v.n) → argsL ds (l.map printV ++ r) 0 = (l, r, 0)
  | [], [], r, _, _ => rfl
  | d :: ds, v :: l, r, h, hn => by
    rw [fitsL, Bool.and_eq_true] at h
    show ((valueS d (printV v :: (l.map printV ++ r)) 0).1 :: (argsL ds (valueS d (printV v :: (l.map printV ++ r)) 0).2.1 (valueS d (printV v :: (l.map printV ++ r)) 0).2.2).1, (argsL ds (valueS d (printV v :: (l.map printV ++ r)) 0).2.1 (valueS d (printV v :: (l.map printV ++ r)) 0).2.2).2) = _
    rw [value_of (hn v List.mem_cons_self) h.1]
    dsimp only
    rw [args_of h.2 (fun x hx => hn x (List.mem_cons_of_mem _ hx))]
  | [], _ :: _, _, h, _ => by cases h
  | _ :: _, [], _, h, _ => by cases h
theorem out_of : ∀ {l : List Val}, l.all rightV = true → (∀ v ∈ l, I64 v.n) → outL (l.map printV) 0 = (l, [], 0)
  | [], _, _ => rfl
  | v :: l, h, hn => by
    rw [List.all_cons, Bool.and_eq_true] at h
    rw [List.map_cons, outL, if_pos rfl, parse_print (hn v List.mem_cons_self) h.1]
    dsimp only
    rw [out_of h.2 (fun x hx => hn x (List.mem_cons_of_mem _ hx))]
theorem allS_of {e : Evt} (hw : e.Wf) (h : rightE e = true) : allS (wordsE e) = ({ e with noted := false, note := [] }, [], 0) := by
  obtain ⟨h1, h2, h3⟩ := right_head h
  have hty := right_type h
  have e1 : wordsE e = Lib.itoa e.time :: printV e.client :: namedW.getD e.type.toNat [] :: ((if e.type = 1 then [mnameS e.model, printV e.key, onameS e.op] else []) ++ (e.args.map printV ++ e.out.map printV)) := by
    unfold wordsE; simp
  rw [e1]
  unfold allS
  rw [nextS_cons]
  dsimp only
  rw [count_of ⟨by omega, hw.time.2⟩]
  have e2 : faultS 0 (erv (.ok e.time)) = 0 := rfl
  rw [e2, value_of hw.client.n h2]
  dsimp only
  rw [numberS_cons, (type_ok hty).1]
  dsimp only
  rw [if_pos rfl]
  by_cases ht : e.type = 1
  · obtain ⟨g1, g2, g3, g4⟩ := right_inv h ht
    obtain ⟨⟨g5, g6⟩, _⟩ := args_row g1
    rw [if_pos ht, if_pos ht, g4]
    have e3 : invS ([mnameS e.model, printV e.key, onameS e.op] ++ (e.args.map printV ++ List.map printV [])) 0 = (e.model, e.key, e.op, e.args, [], 0) := by
      unfold invS
      dsimp only
      rw [show [mnameS e.model, printV e.key, onameS e.op] ++ (e.args.map printV ++ List.map printV []) = mnameS e.model :: printV e.key :: onameS e.op :: (e.args.map printV ++ []) from rfl]
      rw [numberS_cons, g5]
      dsimp only
      rw [if_pos rfl, value_of hw.key.n g2]
      dsimp only
      rw [numberS_cons, g6]
      dsimp only
      rw [if_pos rfl, g1]
      rw [show (if (!true) = true then faultS 0 2 else 0) = (0 : Int) from rfl, args_of g3 (fun v hv => (hw.args v hv).n)]
    rw [e3]
    dsimp only
    obtain ⟨t, c, y, m, k, o, ars, ous, b, nt⟩ := e
    dsimp only at ht g4 ⊢
    subst ht g4
    rfl
  · obtain ⟨g1, g2, g3, g4, g5, g6⟩ := right_end h ht
    rw [if_neg ht, if_neg ht, g4]
    rw [show ([] : List Bs) ++ (List.map printV [] ++ e.out.map printV) = e.out.map printV from rfl]
    by_cases h22 : e.type = 2
    · rw [if_pos h22, out_of g5 (fun v hv => (hw.out v hv).n)]
      dsimp only
      obtain ⟨t, c, y, m, k, o, ars, ous, b, nt⟩ := e
      dsimp only at h22 g1 g2 g3 g4 ⊢
      subst h22 g1 g2 g3 g4
      rfl
    · have g7 := g6.resolve_left h22
      rw [if_neg h22, g7.2]
      obtain ⟨t, c, y, m, k, o, ars, ous, b, nt⟩ := e
      dsimp only at g1 g2 g3 g4 g7 ⊢
      obtain ⟨_, g8⟩ := g7
      subst g1 g2 g3 g4 g8
      rfl
theorem mem_join {c : UInt8} {sep : Bs} : ∀ {l : List Bs}, c ∈ Lib.join l sep → c ∈ sep ∨ ∃ x ∈ l, c ∈ x
  | [], h => by rw [Lib.join_nil] at h; cases h
  | [x], h => by rw [Lib.join_one] at h; exact .inr ⟨x, by simp, h⟩
  | x :: y :: r, h => by
    rw [join_two] at h
    rcases List.mem_append.1 h with h | h
    · rcases List.mem_append.1 h with h | h
      · exact .inr ⟨x, by simp, h⟩
      · exact .inl h
    · rcases mem_join h with h | ⟨z, hz, hc⟩
      · exact .inl h
      · exact .inr ⟨z, List.mem_cons_of_mem _ hz, hc⟩
theorem words_okC {e : Evt} (h : rightE e = true) : ∀ x ∈ wordsE e, okC x = true := by
  intro x hx
  unfold wordsE at hx
  simp only [List.mem_append, List.mem_cons, List.not_mem_nil, or_false, List.mem_map] at hx
  rcases hx with ((rfl | rfl | rfl) | hx) | (⟨v, hv, rfl⟩ | ⟨v, hv, rfl⟩)
  · exact okC_itoa _
  · exact okC_print (takes_right (right_head h).2.1)
  · exact (type_ok (right_type h)).2
  · split at hx
    · rename_i ht
      obtain ⟨g1, g2, _⟩ := right_inv h ht
      obtain ⟨_, g5, g6⟩ := args_row g1
      simp only [List.mem_cons, List.not_mem_nil, or_false] at hx
      rcases hx with rfl | rfl | rfl
      · exact g5
      · exact okC_print (takes_right g2)
      · exact g6
    · cases hx
  · exact okC_print ((right_vals h).1 v hv)
  · exact okC_print ((right_vals h).2 v hv)
theorem words_ne {e : Evt} : wordsE e ≠ [] := by unfold wordsE; simp
/-- A right event, printed, is read as itself. -/
theorem parse_printE {e : Evt} (hw : e.Wf) (h : rightE e = true) : parseE (printE e) = (e, 0) := by
  have hok := words_okC h
  have hws : wordsS (Lib.join (wordsE e) [32]) = (wordsE e, 0) := words_of words_ne (fun x hx => ⟨(okC_mem (hok x hx)).2.1, (okC_mem (hok x hx)).1⟩)
  have hno : ∀ j (hj : j < (Lib.join (wordsE e) [32]).length), ¬ (Lib.join (wordsE e) [32])[j] = 59 := by
    intro j hj he
    have hm : (59 : UInt8) ∈ Lib.join (wordsE e) [32] := he ▸ List.getElem_mem hj
    rcases mem_join hm with h1 | ⟨x, hx, hc⟩
    · simp at h1
    · exact (okC_mem (hok x hx)).2.2 hc
  have hnb := (right_head h).2.2
  simp only [notedB, Bool.and_eq_true, Bool.or_eq_true, decide_eq_true_eq, Bool.not_eq_true', decide_eq_false_iff_not, beq_iff_eq] at hnb
  obtain ⟨⟨n1, n2⟩, n3⟩ := hnb
  have hnote : noteS (printE e) = (Lib.join (wordsE e) [32], e.note, e.noted, 0) := by
    unfold printE
    rw [if_pos h]
    split
    · rename_i hb
      rw [hb, ← List.append_assoc]
      exact note_behind hno (fun j hj he => n2 (idx_pos hj he)) (by omega)
    · rename_i hb
      have e2 : e.note = [] := n3.resolve_left hb
      have e3 : e.noted = false := by simpa using hb
      rw [List.append_nil, e2, e3]
      exact note_none (Nat.le_refl _) hno
  unfold parseE
  rw [hnote]
  dsimp only
  rw [if_neg (by simp), hws]
  dsimp only
  rw [if_neg (by simp), allS_of hw h]
  dsimp only
  rw [if_neg (by simp)]
end Go.Proofs.YtiinipcmghhacaaGreatDoor.T10
