/- The reference's reading of a line, first part. -/
import Derived.Test.YtiinipcmghhacaaGreatDoorZD3
set_option linter.unusedVariables false
set_option linter.unusedSimpArgs false
namespace Go.Proofs.YtiinipcmghhacaaGreatDoor.T10
open Go Go.Proofs.YtiinipcmghhacaaGreatDoor.X
instance : LZ Tryz.prog 86 [(0, .slice none 0 0), (1, .int .i64 0), (2, .bool false), (3, .bool false)] := ⟨⟨.agg #[.slice none 0 0, .int .i64 0, .bool false, .bool false], by kernel_rfl, ⟨rfl, rfl, rfl, rfl, trivial⟩⟩⟩
theorem T.a86 : aggSz Tryz.prog 86 = some 4 := by kernel_rfl
instance : AG Tryz.prog 86 4 := ⟨T.a86⟩
theorem T.g23 : goFn Tryz.prog 23 = true := by kernel_rfl
theorem T.g33 : goFn Tryz.prog 33 = true := by kernel_rfl
theorem T.g34 : goFn Tryz.prog 34 = true := by kernel_rfl

/-! The reference's tables. -/
def mnameS (m : Int) : Bs := if m = 1 then [114, 101, 103] else if m = 2 then [99, 97, 115] else if m = 3 then [115, 101, 116] else if m = 4 then [109, 97, 112] else if m = 5 then [102, 105, 102, 111] else if m = 6 then [115, 116, 97, 99, 107] else if m = 7 then [108, 111, 99, 107] else if m = 8 then [99, 111, 117, 110, 116] else if m = 9 then [109, 97, 120] else if m = 10 then [111, 109, 97, 112] else []
def onameS (o : Int) : Bs := if o = 1 then [119, 114, 105, 116, 101] else if o = 2 then [114, 101, 97, 100] else if o = 3 then [115, 119, 97, 112] else if o = 4 then [97, 100, 100] else if o = 5 then [100, 101, 108] else if o = 6 then [104, 97, 115] else if o = 7 then [112, 117, 116] else if o = 8 then [103, 101, 116] else if o = 9 then [112, 117, 115, 104] else if o = 10 then [112, 111, 112] else if o = 11 then [116, 97, 107, 101] else if o = 12 then [102, 114, 101, 101] else if o = 13 then [115, 99, 97, 110] else []
theorem mname_at {i : Nat} {h : i < modelsW.length} (h1 : 1 ≤ i) : modelsW[i] = mnameS (i : Int) := by
  have hc : ((List.range 11).all fun i => decide (i = 0) || decide (modelsW[i]? = some (mnameS (i : Int)))) = true := by decide +kernel
  have h2 : i < 11 := h
  have := List.all_eq_true.1 hc i (List.mem_range.2 h2)
  simp only [Bool.or_eq_true, decide_eq_true_eq] at this
  rcases this with h3 | h3
  · omega
  · rw [List.getElem?_eq_getElem h] at h3; exact Option.some.inj h3
theorem oname_at {i : Nat} {h : i < opsW.length} (h1 : 1 ≤ i) : opsW[i] = onameS (i : Int) := by
  have hc : ((List.range 14).all fun i => decide (i = 0) || decide (opsW[i]? = some (onameS (i : Int)))) = true := by decide +kernel
  have h2 : i < 14 := h
  have := List.all_eq_true.1 hc i (List.mem_range.2 h2)
  simp only [Bool.or_eq_true, decide_eq_true_eq] at this
  rcases this with h3 | h3
  · omega
  · rw [List.getElem?_eq_getElem h] at h3; exact Option.some.inj h3
def sgnTab : List (Bs × List Int × Int × Bool) := [([114, 101, 103, 32, 119, 114, 105, 116, 101], [2], (-1), false), ([99, 97, 115, 32, 119, 114, 105, 116, 101], [2], (-1), false), ([115, 101, 116, 32, 97, 100, 100], [2], (-1), false), ([115, 101, 116, 32, 100, 101, 108], [2], (-1), false), ([102, 105, 102, 111, 32, 112, 117, 115, 104], [2], (-1), false), ([115, 116, 97, 99, 107, 32, 112, 117, 115, 104], [2], (-1), false), ([114, 101, 103, 32, 114, 101, 97, 100], [], 2, true), ([99, 97, 115, 32, 114, 101, 97, 100], [], 2, true), ([102, 105, 102, 111, 32, 112, 111, 112], [], 2, true), ([115, 116, 97, 99, 107, 32, 112, 111, 112], [], 2, true), ([99, 97, 115, 32, 115, 119, 97, 112], [2, 2], 6, false), ([115, 101, 116, 32, 104, 97, 115], [2], 6, false), ([109, 97, 112, 32, 112, 117, 116], [3, 2], (-1), false), ([109, 97, 112, 32, 103, 101, 116], [3], 2, true), ([109, 97, 112, 32, 100, 101, 108], [3], (-1), false), ([108, 111, 99, 107, 32, 116, 97, 107, 101], [], 6, false), ([108, 111, 99, 107, 32, 102, 114, 101, 101], [], 6, false), ([99, 111, 117, 110, 116, 32, 97, 100, 100], [5], (-1), false), ([99, 111, 117, 110, 116, 32, 114, 101, 97, 100], [], 5, false), ([109, 97, 120, 32, 119, 114, 105, 116, 101], [4], (-1), false), ([111, 109, 97, 112, 32, 100, 101, 108], [4], (-1), false), ([109, 97, 120, 32, 114, 101, 97, 100], [], 4, true), ([111, 109, 97, 112, 32, 112, 117, 116], [4, 2], (-1), false), ([111, 109, 97, 112, 32, 115, 99, 97, 110], [4, 4], 99, false)]
def sgnT (t : Bs) : List Int × Int × Bool × Bool := match sgnTab.find? (fun r => r.1 == t) with
  | some r => (r.2.1, r.2.2.1, r.2.2.2, true)
  | none => ([], 0, false, false)
def sgnF (m o : Int) : List Int × Int × Bool × Bool := (doms (findS m o).1.ins, (findS m o).1.out, (findS m o).1.may, (findS m o).2)
theorem rows_rng : (rowsT.all fun r => decide (1 ≤ r.model ∧ r.model ≤ 10 ∧ 1 ≤ r.op ∧ r.op ≤ 13)) = true := by decide +kernel
theorem find_out {m o : Int} (h : ¬ (1 ≤ m ∧ m ≤ 10 ∧ 1 ≤ o ∧ o ≤ 13)) : findS m o = (⟨0, 0, [], 0, false⟩, false) := by
  unfold findS
  rw [List.find?_eq_none.2]
  intro r hr hc
  have h1 := List.all_eq_true.1 rows_rng r hr
  simp only [isRow, Bool.and_eq_true, decide_eq_true_eq] at h1 hc
  omega
theorem mname_out {m : Int} (h : ¬ (1 ≤ m ∧ m ≤ 10)) : mnameS m = [] := by
  unfold mnameS
  repeat rw [if_neg (by omega)]
theorem oname_out {o : Int} (h : ¬ (1 ≤ o ∧ o ≤ 13)) : onameS o = [] := by
  unfold onameS
  repeat rw [if_neg (by omega)]
theorem sgn_all : ((List.range 11).all fun m => (List.range 14).all fun o => decide (sgnT (mnameS (m : Int) ++ [32] ++ onameS (o : Int)) = sgnF (m : Int) (o : Int))) = true := by decide +kernel
theorem find_sgn (m o : Int) : sgnT (mnameS m ++ [32] ++ onameS o) = sgnF m o := by
  have key : ∀ (m o : Int), 0 ≤ m → m ≤ 10 → 0 ≤ o → o ≤ 13 → sgnT (mnameS m ++ [32] ++ onameS o) = sgnF m o := by
    intro m o h1 h2 h3 h4
    have h := List.all_eq_true.1 (List.all_eq_true.1 sgn_all m.toNat (List.mem_range.2 (by omega))) o.toNat (List.mem_range.2 (by omega))
    rw [decide_eq_true_eq, show ((m.toNat : Nat) : Int) = m by omega, show ((o.toNat : Nat) : Int) = o by omega] at h
    exact h
  by_cases hm : 1 ≤ m ∧ m ≤ 10
  · by_cases ho : 1 ≤ o ∧ o ≤ 13
    · exact key m o (by omega) (by omega) (by omega) (by omega)
    · have e : sgnF m o = sgnF m 0 := by unfold sgnF; rw [find_out (m := m) (o := o) (by omega), find_out (m := m) (o := 0) (by omega)]
      rw [e, ← key m 0 (by omega) (by omega) (by omega) (by omega), oname_out ho, oname_out (o := 0) (by omega)]
  · by_cases ho : 1 ≤ o ∧ o ≤ 13
    · have e : sgnF m o = sgnF 0 o := by unfold sgnF; rw [find_out (m := m) (o := o) (by omega), find_out (m := 0) (o := o) (by omega)]
      rw [e, ← key 0 o (by omega) (by omega) (by omega) (by omega), mname_out hm, mname_out (m := 0) (by omega)]
    · have e : sgnF m o = sgnF 0 0 := by unfold sgnF; rw [find_out (m := m) (o := o) (by omega), find_out (m := 0) (o := 0) (by omega)]
      rw [e, ← key 0 0 (by omega) (by omega) (by omega) (by omega), mname_out hm, mname_out (m := 0) (by omega), oname_out ho, oname_out (o := 0) (by omega)]
theorem sgn_hit {t k : Bs} (h : t = k) {z : List Int × Int × Bool × Bool} (e : sgnT k = z) : sgnT t = z := by rw [h, e]
theorem mname_len (m : Int) : (mnameS m).length ≤ 5 := by
  by_cases hm : 1 ≤ m ∧ m ≤ 10
  · have hc : ((List.range 11).all fun k => decide ((mnameS (k : Int)).length ≤ 5)) = true := by decide +kernel
    have := List.all_eq_true.1 hc m.toNat (List.mem_range.2 (by omega))
    rw [decide_eq_true_eq, show ((m.toNat : Nat) : Int) = m by omega] at this
    exact this
  · rw [mname_out hm]; decide
theorem oname_len (o : Int) : (onameS o).length ≤ 5 := by
  by_cases ho : 1 ≤ o ∧ o ≤ 13
  · have hc : ((List.range 14).all fun k => decide ((onameS (k : Int)).length ≤ 5)) = true := by decide +kernel
    have := List.all_eq_true.1 hc o.toNat (List.mem_range.2 (by omega))
    rw [decide_eq_true_eq, show ((o.toNat : Nat) : Int) = o by omega] at this
    exact this
  · rw [oname_out ho]; decide
def nameB (v : Val) : Bool := rightV v && (decide (v.k = 1) || decide (v.k = 2))
def nameE (s : Bs) : Int := if ((parseV s).2 = 0 ∧ nameB (parseV s).1 = false) then 2 else (parseV s).2
/-! The readings of the two: word by word. -/
theorem nextS_stuck {l : List Bs} {e : Int} (h : ¬ e = 0) : nextS l e = ([], l, e) := by
  unfold nextS faultS
  by_cases hl : l = []
  · simp [hl, h]
  · simp [hl, h]
theorem nextS_cons (a : Bs) (r : List Bs) : nextS (a :: r) 0 = (a, r, 0) := rfl
theorem nextS_nil : nextS [] 0 = ([], [], 2) := rfl
theorem valueS_stuck {d : Int} {l : List Bs} {e : Int} (h : ¬ e = 0) : valueS d l e = (⟨0, 0, []⟩, l, e) := by
  unfold valueS; rw [nextS_stuck h]; exact if_neg h
theorem valueS_nil (d : Int) : valueS d [] 0 = (⟨0, 0, []⟩, [], 2) := rfl
theorem valueS_cons (d : Int) (a : Bs) (r : List Bs) : valueS d (a :: r) 0 = ((parseV a).1, r, if (parseV a).2 = 0 ∧ 0 ≤ d ∧ takesB d (parseV a).1 = false then 2 else (parseV a).2) := by
  unfold valueS
  rw [nextS_cons]
  dsimp only
  rw [if_pos rfl]
  by_cases h : (parseV a).2 = 0
  · by_cases h2 : 0 ≤ d
    · cases h3 : takesB d (parseV a).1 with
      | true => simp [faultS, h, h2, h3]
      | false => simp [faultS, h, h2, h3]
    · simp [faultS, h, h2]
  · simp [faultS, h]
theorem numberS_stuck {tab : Bs → Int × Bool} (ht : tab [] = (0, false)) {l : List Bs} {e : Int} (h : ¬ e = 0) : numberS tab l e = (0, l, e) := by
  unfold numberS; rw [nextS_stuck h, ht]; simp [faultS, h]
theorem numberS_nil {tab : Bs → Int × Bool} (ht : tab [] = (0, false)) : numberS tab [] 0 = (0, [], 2) := by
  unfold numberS; rw [nextS_nil, ht]; rfl
theorem numberS_cons {tab : Bs → Int × Bool} (a : Bs) (r : List Bs) : numberS tab (a :: r) 0 = ((tab a).1, r, if (tab a).2 = true then 0 else 2) := by
  unfold numberS; rw [nextS_cons]; cases h : (tab a).2 <;> simp [faultS, h]
theorem argsL_stuck : ∀ {ds : List Int} {l : List Bs} {e : Int}, ¬ e = 0 → (argsL ds l e).2 = (l, e)
  | [], l, e, _ => rfl
  | d :: r, l, e, h => by
    show (argsL r (valueS d l e).2.1 (valueS d l e).2.2).2 = _
    rw [valueS_stuck h]
    exact argsL_stuck h
theorem tab_m : modelS [] = (0, false) := by decide
theorem tab_o : opS [] = (0, false) := by decide
theorem tab_t : typedS [] = (0, false) := by decide
theorem faultS_stuck {e : Int} (h : ¬ e = 0) : faultS e 2 = e := if_neg h
theorem faultS_zero : faultS 0 2 = 2 := rfl
theorem invS_stuck {l : List Bs} {e : Int} (h : ¬ e = 0) : (invS l e).2.2.2.2 = (l, e) := by
  unfold invS
  dsimp only
  rw [numberS_stuck tab_m h]
  dsimp only
  rw [valueS_stuck h]
  dsimp only
  rw [numberS_stuck tab_o h]
  dsimp only
  have h2 : (if (!(argsD 0 0).2) = true then faultS e 2 else e) = e := by split; exact faultS_stuck h; rfl
  rw [h2]
  exact argsL_stuck h
/-- The code of what is called. -/
def invF (l : List Bs) : Int := if 0 < (invS l 0).2.2.2.2.1.length then faultS (invS l 0).2.2.2.2.2 2 else (invS l 0).2.2.2.2.2
theorem invF_of {l r : List Bs} {e : Int} (h : ¬ e = 0) (hs : (invS l 0).2.2.2.2 = (r, e)) : invF l = e := by
  unfold invF
  rw [hs]
  dsimp only
  split
  · exact faultS_stuck h
  · rfl
theorem drop_at {l : List Bs} {i : Nat} {x : Bs} (h : l[i]? = some x) : l.drop i = x :: l.drop (i + 1) := by
  obtain ⟨hl, e⟩ := List.getElem?_eq_some_iff.1 h
  rw [List.drop_eq_getElem_cons hl, e]
theorem drop_end {l : List Bs} {i : Nat} (h : l.length ≤ i) : l.drop i = [] := List.drop_of_length_le h
theorem at_of {l : List Bs} {i : Int} {k : Nat} {h : i.toNat < l.length} {x : Bs} (e : l[i.toNat] = x) (hi : i = (k : Int)) : l[k]? = some x := by
  subst hi
  rw [← e]
  exact (List.getElem?_eq_getElem h)
theorem modelS_zero {w : Bs} : (modelS w).2 = !decide ((modelS w).1 = 0) := by
  unfold modelS
  have : ∀ (ws : List Bs) (k : Int), 0 ≤ k → (idxW ws k w).2 = !decide ((idxW ws k w).1 = 0) := by
    intro ws
    induction ws with
    | nil => intro k _; rfl
    | cons x r ih =>
      intro k hk
      unfold idxW
      split
      · rename_i h
        simp only [Bool.and_eq_true, decide_eq_true_eq] at h
        have : ¬ k = 0 := by omega
        simp [this]
      · exact ih (k + 1) (by omega)
  exact this _ 0 (by decide)
theorem opS_zero {w : Bs} : (opS w).2 = !decide ((opS w).1 = 0) := by
  unfold opS
  have : ∀ (ws : List Bs) (k : Int), 0 ≤ k → (idxW ws k w).2 = !decide ((idxW ws k w).1 = 0) := by
    intro ws
    induction ws with
    | nil => intro k _; rfl
    | cons x r ih =>
      intro k hk
      unfold idxW
      split
      · rename_i h
        simp only [Bool.and_eq_true, decide_eq_true_eq] at h
        have : ¬ k = 0 := by omega
        simp [this]
      · exact ih (k + 1) (by omega)
  exact this _ 0 (by decide)
theorem takes_name {v : Val} {d : Int} (h : 0 ≤ d ∧ d ≤ 4) : takesB d v = nameB v := by
  unfold takesB nameB
  cases hr : rightV v with
  | false => simp
  | true => rw [if_neg (by decide), if_pos (by omega)]; simp
theorem value_name {a : Bs} (r : List Bs) {d : Int} (h : 0 ≤ d ∧ d ≤ 4) : valueS d (a :: r) 0 = ((parseV a).1, r, nameE a) := by
  rw [valueS_cons, takes_name h]
  unfold nameE
  by_cases h2 : (parseV a).2 = 0 ∧ nameB (parseV a).1 = false
  · rw [if_pos ⟨h2.1, h.1, h2.2⟩, if_pos h2]
  · rw [if_neg (fun x => h2 ⟨x.1, x.2.2⟩), if_neg h2]
theorem doms_nn {s : Bs} {i : Nat} (h : i < (doms s).length) : 0 ≤ (doms s)[i] := by
  have e : (doms s)[i] = domS ((s[i]'(by simpa [doms] using h)).toNat : Int) := by simp [doms]
  rw [e]
  unfold domS
  repeat (first | split | decide)
section
variable {l : List Bs} {a k o : Bs}
theorem inv_0 (h : l.length ≤ 3) : invF (l.drop 3) = 2 := by
  rw [drop_end h]
  refine invF_of (e := 2) (r := []) (by decide) ?_
  unfold invS; dsimp only
  rw [numberS_nil tab_m]; dsimp only
  rw [valueS_stuck (by decide)]; dsimp only
  rw [numberS_stuck tab_o (by decide)]; dsimp only
  have h2 : (if (!(argsD 0 0).2) = true then faultS 2 2 else 2) = 2 := by split <;> rfl
  rw [h2]; exact argsL_stuck (by decide)
theorem inv_m (h3 : l[3]? = some a) (hm : (modelS a).1 = 0) : invF (l.drop 3) = 2 := by
  rw [drop_at h3]
  refine invF_of (e := 2) (r := l.drop 4) (by decide) ?_
  have h : (modelS a).2 = false := by rw [modelS_zero, hm]; rfl
  unfold invS; dsimp only
  rw [numberS_cons, if_neg (by rw [h]; decide)]; dsimp only
  rw [valueS_stuck (by decide)]; dsimp only
  rw [numberS_stuck tab_o (by decide)]; dsimp only
  have h2 : (if (!(argsD (modelS a).1 0).2) = true then faultS 2 2 else 2) = 2 := by split <;> rfl
  rw [h2]; exact argsL_stuck (by decide)
variable (h3 : l[3]? = some a) (hm : ¬ (modelS a).1 = 0)
include h3 hm
theorem inv_1 (h4 : l.length ≤ 4) : invF (l.drop 3) = 2 := by
  rw [drop_at h3, drop_end h4]
  refine invF_of (e := 2) (r := []) (by decide) ?_
  have h : (modelS a).2 = true := by rw [modelS_zero]; simpa using hm
  unfold invS; dsimp only
  rw [numberS_cons, if_pos h]; dsimp only
  rw [valueS_nil]; dsimp only
  rw [numberS_stuck tab_o (by decide)]; dsimp only
  have h2 : (if (!(argsD (modelS a).1 0).2) = true then faultS 2 2 else 2) = 2 := by split <;> rfl
  rw [h2]; exact argsL_stuck (by decide)
theorem inv_k (h4 : l[4]? = some k) (hk : ¬ nameE k = 0) : invF (l.drop 3) = nameE k := by
  rw [drop_at h3, drop_at h4]
  refine invF_of (e := nameE k) (r := l.drop 5) hk ?_
  have h : (modelS a).2 = true := by rw [modelS_zero]; simpa using hm
  unfold invS; dsimp only
  rw [numberS_cons, if_pos h]; dsimp only
  rw [value_name _ (by decide)]; dsimp only
  rw [numberS_stuck tab_o hk]; dsimp only
  have h2 : (if (!(argsD (modelS a).1 0).2) = true then faultS (nameE k) 2 else nameE k) = nameE k := by split; exact faultS_stuck hk; rfl
  rw [h2]; exact argsL_stuck hk
variable (h4 : l[4]? = some k) (hk : nameE k = 0)
include h4 hk
theorem inv_2 (h5 : l.length ≤ 5) : invF (l.drop 3) = 2 := by
  rw [drop_at h3, drop_at h4, drop_end h5]
  refine invF_of (e := 2) (r := []) (by decide) ?_
  have h : (modelS a).2 = true := by rw [modelS_zero]; simpa using hm
  unfold invS; dsimp only
  rw [numberS_cons, if_pos h]; dsimp only
  rw [value_name _ (by decide), hk]; dsimp only
  rw [numberS_nil tab_o]; dsimp only
  have h2 : (if (!(argsD (modelS a).1 0).2) = true then faultS 2 2 else 2) = 2 := by split <;> rfl
  rw [h2]; exact argsL_stuck (by decide)
theorem inv_at (h5 : l[5]? = some o) : invS (l.drop 3) 0 = ((modelS a).1, (parseV k).1, (opS o).1, argsL (argsD (modelS a).1 (opS o).1).1 (l.drop 6) (if (findS (modelS a).1 (opS o).1).2 = true then 0 else 2)) := by
  rw [drop_at h3, drop_at h4, drop_at h5]
  have h : (modelS a).2 = true := by rw [modelS_zero]; simpa using hm
  unfold invS; dsimp only
  rw [numberS_cons, if_pos h]; dsimp only
  rw [value_name _ (by decide), hk]; dsimp only
  rw [numberS_cons]; dsimp only
  have e : (if (!(argsD (modelS a).1 (opS o).1).2) = true then faultS (if (opS o).2 = true then 0 else 2) 2 else (if (opS o).2 = true then 0 else 2)) = (if (findS (modelS a).1 (opS o).1).2 = true then 0 else 2) := by
    unfold argsD
    cases hf : (findS (modelS a).1 (opS o).1).2 with
    | true =>
      have ho : (opS o).2 = true := by
        rw [opS_zero]
        simp only [Bool.not_eq_true', decide_eq_false_iff_not]
        intro e0
        rw [find_out (by omega)] at hf
        cases hf
      simp [ho]
    | false => cases (opS o).2 <;> simp [faultS]
  rw [e]
theorem inv_o (h5 : l[5]? = some o) (ho : (findS (modelS a).1 (opS o).1).2 = false) : invF (l.drop 3) = 2 := by
  refine invF_of (e := 2) (r := l.drop 6) (by decide) ?_
  rw [inv_at h3 hm h4 hk h5, if_neg (by rw [ho]; decide)]
  exact argsL_stuck (by decide)
variable (h5 : l[5]? = some o) (ho : (findS (modelS a).1 (opS o).1).2 = true)
include h5 ho
theorem inv_args : invS (l.drop 3) 0 = ((modelS a).1, (parseV k).1, (opS o).1, argsL (doms (findS (modelS a).1 (opS o).1).1.ins) (l.drop 6) 0) := by
  rw [inv_at h3 hm h4 hk h5, if_pos ho]
  unfold argsD
  rw [if_pos ho]
variable {i : Nat} {xs : List Val} {ds : List Int} (hd : ds = doms (findS (modelS a).1 (opS o).1).1.ins) (ha : argsL ds (l.drop 6) 0 = (xs ++ (argsL (ds.drop i) (l.drop (6 + i)) 0).1, (argsL (ds.drop i) (l.drop (6 + i)) 0).2))
include hd ha
theorem inv_e1 (hi : i < ds.length) (h6 : l.length ≤ 6 + i) : invF (l.drop 3) = 2 := by
  refine invF_of (e := 2) (r := []) (by decide) ?_
  rw [inv_args h3 hm h4 hk h5 ho, ← hd, ha, List.drop_eq_getElem_cons hi, drop_end h6]
  show (argsL (ds.drop (i + 1)) (valueS ds[i] [] 0).2.1 (valueS ds[i] [] 0).2.2).2 = _
  rw [valueS_nil]
  exact argsL_stuck (by decide)
theorem inv_e2 (hi : i < ds.length) {v : Bs} (h6 : l[6 + i]? = some v) (hv : ¬ (parseV v).2 = 0) : invF (l.drop 3) = (parseV v).2 := by
  refine invF_of (e := (parseV v).2) (r := l.drop (6 + i + 1)) hv ?_
  rw [inv_args h3 hm h4 hk h5 ho, ← hd, ha, List.drop_eq_getElem_cons hi, drop_at h6]
  show (argsL (ds.drop (i + 1)) (valueS ds[i] (v :: l.drop (6 + i + 1)) 0).2.1 (valueS ds[i] (v :: l.drop (6 + i + 1)) 0).2.2).2 = _
  rw [valueS_cons, if_neg (fun h => hv h.1)]
  exact argsL_stuck hv
theorem inv_e3 (hi : i < ds.length) {v : Bs} (h6 : l[6 + i]? = some v) (hv : (parseV v).2 = 0) {d : Int} (hdi : ds[i] = d) (ht : takesB d (parseV v).1 = false) : invF (l.drop 3) = 2 := by
  have hn : 0 ≤ d := by subst hdi; subst hd; exact doms_nn hi
  refine invF_of (e := 2) (r := l.drop (6 + i + 1)) (by decide) ?_
  rw [inv_args h3 hm h4 hk h5 ho, ← hd, ha, List.drop_eq_getElem_cons hi, drop_at h6]
  show (argsL (ds.drop (i + 1)) (valueS ds[i] (v :: l.drop (6 + i + 1)) 0).2.1 (valueS ds[i] (v :: l.drop (6 + i + 1)) 0).2.2).2 = _
  rw [valueS_cons, if_pos ⟨hv, by rw [hdi]; exact hn, by rw [hdi]; exact ht⟩]
  exact argsL_stuck (e := 2) (by decide)
omit h3 hm h4 hk h5 ho hd in
theorem inv_next (hi : i < ds.length) {v : Bs} (h6 : l[6 + i]? = some v) (hv : (parseV v).2 = 0) {d : Int} (hdi : ds[i] = d) (ht : takesB d (parseV v).1 = true) : argsL ds (l.drop 6) 0 = ((xs ++ [(parseV v).1]) ++ (argsL (ds.drop (i + 1)) (l.drop (6 + (i + 1))) 0).1, (argsL (ds.drop (i + 1)) (l.drop (6 + (i + 1))) 0).2) := by
  rw [ha, List.drop_eq_getElem_cons hi, drop_at h6]
  show (xs ++ ((valueS ds[i] (v :: l.drop (6 + i + 1)) 0).1 :: (argsL (ds.drop (i + 1)) (valueS ds[i] (v :: l.drop (6 + i + 1)) 0).2.1 (valueS ds[i] (v :: l.drop (6 + i + 1)) 0).2.2).1), (argsL (ds.drop (i + 1)) (valueS ds[i] (v :: l.drop (6 + i + 1)) 0).2.1 (valueS ds[i] (v :: l.drop (6 + i + 1)) 0).2.2).2) = _
  rw [valueS_cons, if_neg (by rw [hdi, ht]; simp), hv, List.append_assoc]
  rfl
theorem inv_done (hi : ds.length ≤ i) : invS (l.drop 3) 0 = ((modelS a).1, (parseV k).1, (opS o).1, xs, l.drop (6 + i), 0) := by
  rw [inv_args h3 hm h4 hk h5 ho, ← hd, ha, List.drop_of_length_le hi]
  simp [argsL]
end
/-- The event that is called. -/
def invE (l : List Bs) : Evt := ⟨0, ⟨0, 0, []⟩, 0, (invS l 0).1, (invS l 0).2.1, (invS l 0).2.2.1, (invS l 0).2.2.2.1, [], false, []⟩
/-! A whole line. -/
section
variable {l : List Bs} {a c t : Bs}
def C9 (a : Bs) : Except Int Int := countS a 9223372036854775807
theorem all_t (h0 : l[0]? = some a) (he : ¬ erv (C9 a) = 0) : (allS l).2.2 = erv (C9 a) := by
  have hl : l = a :: l.drop 1 := by have := drop_at h0; simpa using this
  have e1 : nextS l 0 = (a, l.drop 1, 0) := by rw [hl]; exact nextS_cons _ _
  unfold allS; dsimp only
  rw [e1]; dsimp only
  rw [show faultS 0 (erv (countS a 9223372036854775807)) = erv (C9 a) from rfl, valueS_stuck he]; dsimp only
  rw [numberS_stuck tab_t he]; dsimp only
  rw [if_neg (show ¬ (0 : Int) = 1 by decide), if_neg (show ¬ (0 : Int) = 2 by decide)]; dsimp only
  split
  · exact faultS_stuck he
  · rfl
variable (h0 : l[0]? = some a) (he : erv (C9 a) = 0)
include h0 he
theorem all_1 (h1 : l.length ≤ 1) : (allS l).2.2 = 2 := by
  have hl : l = [a] := by have := drop_at h0; rw [List.drop_zero, drop_end h1] at this; exact this
  have e1 : nextS l 0 = (a, [], 0) := by rw [hl]; exact nextS_cons _ _
  unfold allS; dsimp only
  rw [e1]; dsimp only
  rw [show faultS 0 (erv (countS a 9223372036854775807)) = 0 from he, valueS_nil]; dsimp only
  rw [numberS_stuck tab_t (by decide)]; dsimp only
  rfl
theorem all_c (h1 : l[1]? = some c) (hc : ¬ nameE c = 0) : (allS l).2.2 = nameE c := by
  have hl : l = a :: c :: l.drop 2 := by have := drop_at h0; rw [List.drop_zero, drop_at h1] at this; exact this
  have e1 : nextS l 0 = (a, c :: l.drop 2, 0) := by rw [hl]; exact nextS_cons _ _
  unfold allS; dsimp only
  rw [e1]; dsimp only
  rw [show faultS 0 (erv (countS a 9223372036854775807)) = 0 from he, value_name _ (by decide)]; dsimp only
  rw [numberS_stuck tab_t hc]; dsimp only
  rw [if_neg (show ¬ (0 : Int) = 1 by decide), if_neg (show ¬ (0 : Int) = 2 by decide)]; dsimp only
  split
  · exact faultS_stuck hc
  · rfl
variable (h1 : l[1]? = some c) (hc : nameE c = 0)
include h1 hc
theorem all_2 (h2 : l.length ≤ 2) : (allS l).2.2 = 2 := by
  have hl : l = [a, c] := by have := drop_at h0; rw [List.drop_zero, drop_at h1, drop_end h2] at this; exact this
  have e1 : nextS l 0 = (a, [c], 0) := by rw [hl]; exact nextS_cons _ _
  unfold allS; dsimp only
  rw [e1]; dsimp only
  rw [show faultS 0 (erv (countS a 9223372036854775807)) = 0 from he, value_name _ (by decide), hc]; dsimp only
  rw [numberS_nil tab_t]; dsimp only
  rfl
variable (h2 : l[2]? = some t)
include h2
theorem all_at : allS l =
    (let z3 : Int × List Bs × Int := ((typedS t).1, l.drop 3, if (typedS t).2 = true then 0 else 2)
     let q : Evt × List Bs × Int := if z3.1 = 1 then (⟨okv (C9 a), (parseV c).1, z3.1, (invS z3.2.1 z3.2.2).1, (invS z3.2.1 z3.2.2).2.1, (invS z3.2.1 z3.2.2).2.2.1, (invS z3.2.1 z3.2.2).2.2.2.1, [], false, []⟩, (invS z3.2.1 z3.2.2).2.2.2.2)
       else if z3.1 = 2 then (⟨okv (C9 a), (parseV c).1, z3.1, 0, ⟨0, 0, []⟩, 0, [], (outL z3.2.1 z3.2.2).1, false, []⟩, (outL z3.2.1 z3.2.2).2)
       else (⟨okv (C9 a), (parseV c).1, z3.1, 0, ⟨0, 0, []⟩, 0, [], [], false, []⟩, z3.2)
     (q.1, q.2.1, if 0 < q.2.1.length then faultS q.2.2 2 else q.2.2)) := by
  have hl : l = a :: c :: t :: l.drop 3 := by have := drop_at h0; rw [List.drop_zero, drop_at h1, drop_at h2] at this; exact this
  have e1 : nextS l 0 = (a, c :: t :: l.drop 3, 0) := by rw [hl]; exact nextS_cons _ _
  unfold allS; dsimp only
  rw [e1]; dsimp only
  rw [show faultS 0 (erv (countS a 9223372036854775807)) = 0 from he, value_name _ (by decide), hc]; dsimp only
  rw [numberS_cons]
  rfl
theorem all_inv (ht : t = [105, 110, 118, 111, 107, 101]) : (allS l).2.2 = invF (l.drop 3) ∧ (allS l).1 = { invE (l.drop 3) with time := okv (C9 a), client := (parseV c).1, type := 1 } := by
  rw [all_at h0 he h1 hc h2, ht]
  exact ⟨rfl, rfl⟩
theorem all_ok (ht : t = [111, 107]) : (allS l).2.2 = (if 0 < (outL (l.drop 3) 0).2.1.length then faultS (outL (l.drop 3) 0).2.2 2 else (outL (l.drop 3) 0).2.2) ∧ (allS l).1 = ⟨okv (C9 a), (parseV c).1, 2, 0, ⟨0, 0, []⟩, 0, [], (outL (l.drop 3) 0).1, false, []⟩ := by
  rw [all_at h0 he h1 hc h2, ht]
  exact ⟨rfl, rfl⟩
theorem all_fail (ht : t = [102, 97, 105, 108]) : (allS l).2.2 = (if 3 < l.length then 2 else 0) ∧ (allS l).1 = ⟨okv (C9 a), (parseV c).1, 3, 0, ⟨0, 0, []⟩, 0, [], [], false, []⟩ := by
  rw [all_at h0 he h1 hc h2, ht]
  refine ⟨?_, rfl⟩
  show (if 0 < (l.drop 3).length then faultS 0 2 else 0) = _
  rw [List.length_drop]
  by_cases h : 3 < l.length
  · rw [if_pos (by omega), if_pos h]; rfl
  · rw [if_neg (by omega), if_neg h]
theorem all_info (ht : t = [105, 110, 102, 111]) : (allS l).2.2 = (if 3 < l.length then 2 else 0) ∧ (allS l).1 = ⟨okv (C9 a), (parseV c).1, 4, 0, ⟨0, 0, []⟩, 0, [], [], false, []⟩ := by
  rw [all_at h0 he h1 hc h2, ht]
  refine ⟨?_, rfl⟩
  show (if 0 < (l.drop 3).length then faultS 0 2 else 0) = _
  rw [List.length_drop]
  by_cases h : 3 < l.length
  · rw [if_pos (by omega), if_pos h]; rfl
  · rw [if_neg (by omega), if_neg h]
theorem all_no (n1 : ¬ t = [105, 110, 118, 111, 107, 101]) (n2 : ¬ t = [111, 107]) (n3 : ¬ t = [102, 97, 105, 108]) (n4 : ¬ t = [105, 110, 102, 111]) : (allS l).2.2 = 2 := by
  rw [all_at h0 he h1 hc h2]
  have e : typedS t = (0, false) := by
    unfold typedS
    rw [if_neg (by simpa using fun e => n1 e.symm), if_neg (by simpa using fun e => n2 e.symm), if_neg (by simpa using fun e => n3 e.symm), if_neg (by simpa using fun e => n4 e.symm)]
  rw [e]
  show (if 0 < (l.drop 3).length then faultS 2 2 else 2) = 2
  split <;> rfl
end
/-- What is behind `ok`, read one by one. -/
theorem outL_app {l : List Bs} {i : Nat} {x : Bs} {ys : List Val} (h : l[i]? = some x) (ho : outL (l.drop 3) 0 = (ys ++ (outL (l.drop i) 0).1, (outL (l.drop i) 0).2)) : outL (l.drop 3) 0 = ((ys ++ [(parseV x).1]) ++ (outL (l.drop (i + 1)) (parseV x).2).1, (outL (l.drop (i + 1)) (parseV x).2).2) := by
  rw [ho, drop_at h]
  show (ys ++ (if (0 : Int) = 0 then ((parseV x).1 :: (outL (l.drop (i + 1)) (parseV x).2).1, (outL (l.drop (i + 1)) (parseV x).2).2) else _).1, _) = _
  rw [if_pos rfl]
  simp [outL]
theorem outL_err {r : List Bs} {e : Int} (h : ¬ e = 0) : outL r e = ([], r, e) := outL_end (fun x => h x.1)
theorem words_pos {s : Bs} (h : (wordsS s).2 = 0) : 0 < (wordsS s).1.length := by
  unfold wordsS at h ⊢
  split
  · rename_i hm; rw [if_pos hm] at h; cases h
  · exact List.length_pos_iff.2 (splitS_ne _ _)
theorem parseE_bad {s : Bs} (h : ¬ (noteS s).2.2.2 = 0 ∨ ¬ (wordsS (noteS s).1).2 = 0) : parseE s = (E0, 2) := by
  unfold parseE
  rcases note_cases s with h1 | h1
  · rw [if_neg (by omega)]
    rcases words_two (noteS s).1 with h2 | h2
    · rcases h with h | h <;> omega
    · rw [h2]; rfl
  · rw [h1]; rfl
theorem parseE_all {s : Bs} (h1 : (noteS s).2.2.2 = 0) (h2 : (wordsS (noteS s).1).2 = 0) : parseE s = if ¬ (allS (wordsS (noteS s).1).1).2.2 = 0 then (E0, (allS (wordsS (noteS s).1).1).2.2) else ({ (allS (wordsS (noteS s).1).1).1 with noted := (noteS s).2.2.1, note := (noteS s).2.1 }, 0) := by
  unfold parseE
  rw [if_neg (by omega), if_neg (by omega)]
theorem parseE_err {s : Bs} {e : Int} (h1 : (noteS s).2.2.2 = 0) (h2 : (wordsS (noteS s).1).2 = 0) (h : (allS (wordsS (noteS s).1).1).2.2 = e) (he : ¬ e = 0) : parseE s = (E0, e) := by
  rw [parseE_all h1 h2, h, if_pos he]
theorem parseE_yes {s : Bs} {x : Evt} (h1 : (noteS s).2.2.2 = 0) (h2 : (wordsS (noteS s).1).2 = 0) (h : (allS (wordsS (noteS s).1).1).2.2 = 0) (hx : (allS (wordsS (noteS s).1).1).1 = x) : parseE s = ({ x with noted := (noteS s).2.2.1, note := (noteS s).2.1 }, 0) := by
  rw [parseE_all h1 h2, if_neg (by omega), hx]
/-! `incognito/incognitoref07.Name` -/
set_option maxRecDepth 100000 in
set_option maxHeartbeats 4000000 in
theorem c_Name7 (v : Val) (w0 : World) (G : Heap) (hG : Sub G w0) (hv : v.Wf):
  Calls Tryz.prog 23 #[.agg #[.int .i64 v.k, .int .i64 v.n, str v.s]] w0 (Ret w0 G (fun z _ => z = .bool (nameB v))) := by
 refine enter Tryz.func23 rfl Tryz.ntmps23 rfl ?_
 intro Q hQ a HE
 have HS := St.start0 hG
 refine sr fun K hK => ?_
 refine o_bx3 HE rfl HS rfl ?_; clear HE HS; intro B1 w a HS HE
 refine rn 1 HE HS ?_; clear HE HS; intro a w HE HS
 apply hK; clear hK K
 refine sr fun K hK => ?_
 refine rn 1 HE HS ?_; clear HE HS; intro a w HE HS
 refine o_callP HE rfl HS rfl rfl T.g25 (c_Right7 v _ _ HS.sub (by first | assumption | exact hv | (constructor <;> first | assumption | (simp only [I64]; omega) | (simp; omega)))) ?_
 clear HE HS; rintro _ w a HS rfl HE
 refine rn 1 HE HS ?_; clear HE HS; intro a w HE HS
 refine cutG 9 14 (.bool ((rightV v) && ((decide (v.k = 1)) || (decide (v.k = 2))))) HE HS ?_ ?_
 ·refine bsp HE (t := 5) rfl (fun hb2 => ?_) (fun hb2 => ?_)
  ·have hk3 := nm hb2
   refine rn 4 HE HS ?_; clear HE HS; intro a w HE HS
   refine cutG 4 13 (.bool ((decide (v.k = 1)) || (decide (v.k = 2)))) HE HS ?_ ?_
   ·refine bsp HE (t := 9) rfl (fun hb4 => ?_) (fun hb4 => ?_)
    ·skip
     refine rn 4 HE HS ?_; clear HE HS; intro a w HE HS
     exact ⟨HS, HE.cutT (by rw [hb4] <;> rfl)⟩
    ·have hk5 := nm hb4
     refine rn 4 HE HS ?_; clear HE HS; intro a w HE HS
     exact ⟨HS, HE.cutT (by rw [hb4] <;> rfl)⟩
   clear HE HS; intro a w HE HS
   refine rn 1 HE HS ?_; clear HE HS; intro a w HE HS
   exact ⟨HS, HE.cutT (by rw [hb2] <;> rfl)⟩
  ·skip
   refine rn 9 HE HS ?_; clear HE HS; intro a w HE HS
   exact ⟨HS, HE.cutT (by rw [hb2] <;> rfl)⟩
 clear HE HS; intro a w HE HS
 refine rn 1 HE HS ?_; clear HE HS; intro a w HE HS
 apply hK; clear hK K
 refine rt hQ HE HS ?_
 show _ = _
 simp only [packed, Value.bool.injEq]
 unfold nameB
 first | rfl | (cases rightV v <;> simp)

/-! `incognito/incognitoref09.ModelName` -/
set_option maxRecDepth 100000 in
set_option maxHeartbeats 4000000 in
theorem c_mname (m : Int) (w0 : World) (G : Heap) (hG : Sub G w0) :
  Calls Tryz.prog 33 #[.int .i64 m] w0 (Ret w0 G (fun v _ => v = str (mnameS m))) := by
 refine enter Tryz.func33 rfl Tryz.ntmps33 rfl ?_
 intro Q hQ a HE
 have HS := St.start0 hG
 refine sr fun K hK => ?_
 refine rn 1 HE HS ?_; clear HE HS; intro a w HE HS
 apply hK; clear hK K
 refine wp_seq_k (fun K3 hK2 => ?_)
 refine sr fun K hK => ?_
 refine rn 1 HE HS ?_; clear HE HS; intro a w HE HS
 apply hK; clear hK K
 refine wp_block ?_
 refine sr fun K hK => ?_
 refine rn 2 HE HS ?_; clear HE HS; intro a w HE HS
 apply hK; clear hK K
 refine cond HE rfl (fun h6r => ?_) (fun h6r => ?_)
 ·have h6 := nm h6r
  refine sr fun K hK => ?_
  refine rn 1 HE HS ?_; clear HE HS; intro a w HE HS
  apply hK; clear hK K
  refine rt hQ HE HS ?_
  have e : mnameS m = [114, 101, 103] := by
   unfold mnameS
   rw [if_pos h6]
  show _ = _
  rw [e]
  rfl
 ·have h6 := nm h6r
  refine sr fun K hK => ?_
  refine rn 2 HE HS ?_; clear HE HS; intro a w HE HS
  apply hK; clear hK K
  refine cond HE rfl (fun h9r => ?_) (fun h9r => ?_)
  ·have h9 := nm h9r
   refine sr fun K hK => ?_
   refine rn 1 HE HS ?_; clear HE HS; intro a w HE HS
   apply hK; clear hK K
   refine rt hQ HE HS ?_
   have e : mnameS m = [99, 97, 115] := by
    unfold mnameS
    rw [if_neg h6]
    rw [if_pos h9]
   show _ = _
   rw [e]
   rfl
  ·have h9 := nm h9r
   refine sr fun K hK => ?_
   refine rn 2 HE HS ?_; clear HE HS; intro a w HE HS
   apply hK; clear hK K
   refine cond HE rfl (fun h12r => ?_) (fun h12r => ?_)
   ·have h12 := nm h12r
    refine sr fun K hK => ?_
    refine rn 1 HE HS ?_; clear HE HS; intro a w HE HS
    apply hK; clear hK K
    refine rt hQ HE HS ?_
    have e : mnameS m = [115, 101, 116] := by
     unfold mnameS
     rw [if_neg h6]
     rw [if_neg h9]
     rw [if_pos h12]
    show _ = _
    rw [e]
    rfl
   ·have h12 := nm h12r
    refine sr fun K hK => ?_
    refine rn 2 HE HS ?_; clear HE HS; intro a w HE HS
    apply hK; clear hK K
    refine cond HE rfl (fun h15r => ?_) (fun h15r => ?_)
    ·have h15 := nm h15r
     refine sr fun K hK => ?_
     refine rn 1 HE HS ?_; clear HE HS; intro a w HE HS
     apply hK; clear hK K
     refine rt hQ HE HS ?_
     have e : mnameS m = [109, 97, 112] := by
      unfold mnameS
      rw [if_neg h6]
      rw [if_neg h9]
      rw [if_neg h12]
      rw [if_pos h15]
     show _ = _
     rw [e]
     rfl
    ·have h15 := nm h15r
     refine sr fun K hK => ?_
     refine rn 2 HE HS ?_; clear HE HS; intro a w HE HS
     apply hK; clear hK K
     refine cond HE rfl (fun h18r => ?_) (fun h18r => ?_)
     ·have h18 := nm h18r
      refine sr fun K hK => ?_
      refine rn 1 HE HS ?_; clear HE HS; intro a w HE HS
      apply hK; clear hK K
      refine rt hQ HE HS ?_
      have e : mnameS m = [102, 105, 102, 111] := by
       unfold mnameS
       rw [if_neg h6]
       rw [if_neg h9]
       rw [if_neg h12]
       rw [if_neg h15]
       rw [if_pos h18]
      show _ = _
      rw [e]
      rfl
     ·have h18 := nm h18r
      refine sr fun K hK => ?_
      refine rn 2 HE HS ?_; clear HE HS; intro a w HE HS
      apply hK; clear hK K
      refine cond HE rfl (fun h21r => ?_) (fun h21r => ?_)
      ·have h21 := nm h21r
       refine sr fun K hK => ?_
       refine rn 1 HE HS ?_; clear HE HS; intro a w HE HS
       apply hK; clear hK K
       refine rt hQ HE HS ?_
       have e : mnameS m = [115, 116, 97, 99, 107] := by
        unfold mnameS
        rw [if_neg h6]
        rw [if_neg h9]
        rw [if_neg h12]
        rw [if_neg h15]
        rw [if_neg h18]
        rw [if_pos h21]
       show _ = _
       rw [e]
       rfl
      ·have h21 := nm h21r
       refine sr fun K hK => ?_
       refine rn 2 HE HS ?_; clear HE HS; intro a w HE HS
       apply hK; clear hK K
       refine cond HE rfl (fun h24r => ?_) (fun h24r => ?_)
       ·have h24 := nm h24r
        refine sr fun K hK => ?_
        refine rn 1 HE HS ?_; clear HE HS; intro a w HE HS
        apply hK; clear hK K
        refine rt hQ HE HS ?_
        have e : mnameS m = [108, 111, 99, 107] := by
         unfold mnameS
         rw [if_neg h6]
         rw [if_neg h9]
         rw [if_neg h12]
         rw [if_neg h15]
         rw [if_neg h18]
         rw [if_neg h21]
         rw [if_pos h24]
        show _ = _
        rw [e]
        rfl
       ·have h24 := nm h24r
        refine sr fun K hK => ?_
        refine rn 2 HE HS ?_; clear HE HS; intro a w HE HS
        apply hK; clear hK K
        refine cond HE rfl (fun h27r => ?_) (fun h27r => ?_)
        ·have h27 := nm h27r
         refine sr fun K hK => ?_
         refine rn 1 HE HS ?_; clear HE HS; intro a w HE HS
         apply hK; clear hK K
         refine rt hQ HE HS ?_
         have e : mnameS m = [99, 111, 117, 110, 116] := by
          unfold mnameS
          rw [if_neg h6]
          rw [if_neg h9]
          rw [if_neg h12]
          rw [if_neg h15]
          rw [if_neg h18]
          rw [if_neg h21]
          rw [if_neg h24]
          rw [if_pos h27]
         show _ = _
         rw [e]
         rfl
        ·have h27 := nm h27r
         refine sr fun K hK => ?_
         refine rn 2 HE HS ?_; clear HE HS; intro a w HE HS
         apply hK; clear hK K
         refine cond HE rfl (fun h30r => ?_) (fun h30r => ?_)
         ·have h30 := nm h30r
          refine sr fun K hK => ?_
          refine rn 1 HE HS ?_; clear HE HS; intro a w HE HS
          apply hK; clear hK K
          refine rt hQ HE HS ?_
          have e : mnameS m = [109, 97, 120] := by
           unfold mnameS
           rw [if_neg h6]
           rw [if_neg h9]
           rw [if_neg h12]
           rw [if_neg h15]
           rw [if_neg h18]
           rw [if_neg h21]
           rw [if_neg h24]
           rw [if_neg h27]
           rw [if_pos h30]
          show _ = _
          rw [e]
          rfl
         ·have h30 := nm h30r
          refine sr fun K hK => ?_
          refine rn 2 HE HS ?_; clear HE HS; intro a w HE HS
          apply hK; clear hK K
          refine cond HE rfl (fun h33r => ?_) (fun h33r => ?_)
          ·have h33 := nm h33r
           refine sr fun K hK => ?_
           refine rn 1 HE HS ?_; clear HE HS; intro a w HE HS
           apply hK; clear hK K
           refine rt hQ HE HS ?_
           have e : mnameS m = [111, 109, 97, 112] := by
            unfold mnameS
            rw [if_neg h6]
            rw [if_neg h9]
            rw [if_neg h12]
            rw [if_neg h15]
            rw [if_neg h18]
            rw [if_neg h21]
            rw [if_neg h24]
            rw [if_neg h27]
            rw [if_neg h30]
            rw [if_pos h33]
           show _ = _
           rw [e]
           rfl
          ·have h33 := nm h33r
           refine wp_skip ?_
           refine hK2 _ _ ?_; clear hK2
           refine sr fun K hK => ?_
           refine rn 1 HE HS ?_; clear HE HS; intro a w HE HS
           apply hK; clear hK K
           refine rt hQ HE HS ?_
           have e : mnameS m = [] := by
            unfold mnameS
            rw [if_neg h6]
            rw [if_neg h9]
            rw [if_neg h12]
            rw [if_neg h15]
            rw [if_neg h18]
            rw [if_neg h21]
            rw [if_neg h24]
            rw [if_neg h27]
            rw [if_neg h30]
            rw [if_neg h33]
           show _ = _
           rw [e]
           rfl

/-! `incognito/incognitoref09.OpName` -/
set_option maxRecDepth 100000 in
set_option maxHeartbeats 4000000 in
theorem c_oname (o : Int) (w0 : World) (G : Heap) (hG : Sub G w0) :
  Calls Tryz.prog 34 #[.int .i64 o] w0 (Ret w0 G (fun v _ => v = str (onameS o))) := by
 refine enter Tryz.func34 rfl Tryz.ntmps34 rfl ?_
 intro Q hQ a HE
 have HS := St.start0 hG
 refine sr fun K hK => ?_
 refine rn 1 HE HS ?_; clear HE HS; intro a w HE HS
 apply hK; clear hK K
 refine wp_seq_k (fun K3 hK2 => ?_)
 refine sr fun K hK => ?_
 refine rn 1 HE HS ?_; clear HE HS; intro a w HE HS
 apply hK; clear hK K
 refine wp_block ?_
 refine sr fun K hK => ?_
 refine rn 2 HE HS ?_; clear HE HS; intro a w HE HS
 apply hK; clear hK K
 refine cond HE rfl (fun h6r => ?_) (fun h6r => ?_)
 ·have h6 := nm h6r
  refine sr fun K hK => ?_
  refine rn 1 HE HS ?_; clear HE HS; intro a w HE HS
  apply hK; clear hK K
  refine rt hQ HE HS ?_
  have e : onameS o = [119, 114, 105, 116, 101] := by
   unfold onameS
   rw [if_pos h6]
  show _ = _
  rw [e]
  rfl
 ·have h6 := nm h6r
  refine sr fun K hK => ?_
  refine rn 2 HE HS ?_; clear HE HS; intro a w HE HS
  apply hK; clear hK K
  refine cond HE rfl (fun h9r => ?_) (fun h9r => ?_)
  ·have h9 := nm h9r
   refine sr fun K hK => ?_
   refine rn 1 HE HS ?_; clear HE HS; intro a w HE HS
   apply hK; clear hK K
   refine rt hQ HE HS ?_
   have e : onameS o = [114, 101, 97, 100] := by
    unfold onameS
    rw [if_neg h6]
    rw [if_pos h9]
   show _ = _
   rw [e]
   rfl
  ·have h9 := nm h9r
   refine sr fun K hK => ?_
   refine rn 2 HE HS ?_; clear HE HS; intro a w HE HS
   apply hK; clear hK K
   refine cond HE rfl (fun h12r => ?_) (fun h12r => ?_)
   ·have h12 := nm h12r
    refine sr fun K hK => ?_
    refine rn 1 HE HS ?_; clear HE HS; intro a w HE HS
    apply hK; clear hK K
    refine rt hQ HE HS ?_
    have e : onameS o = [115, 119, 97, 112] := by
     unfold onameS
     rw [if_neg h6]
     rw [if_neg h9]
     rw [if_pos h12]
    show _ = _
    rw [e]
    rfl
   ·have h12 := nm h12r
    refine sr fun K hK => ?_
    refine rn 2 HE HS ?_; clear HE HS; intro a w HE HS
    apply hK; clear hK K
    refine cond HE rfl (fun h15r => ?_) (fun h15r => ?_)
    ·have h15 := nm h15r
     refine sr fun K hK => ?_
     refine rn 1 HE HS ?_; clear HE HS; intro a w HE HS
     apply hK; clear hK K
     refine rt hQ HE HS ?_
     have e : onameS o = [97, 100, 100] := by
      unfold onameS
      rw [if_neg h6]
      rw [if_neg h9]
      rw [if_neg h12]
      rw [if_pos h15]
     show _ = _
     rw [e]
     rfl
    ·have h15 := nm h15r
     refine sr fun K hK => ?_
     refine rn 2 HE HS ?_; clear HE HS; intro a w HE HS
     apply hK; clear hK K
     refine cond HE rfl (fun h18r => ?_) (fun h18r => ?_)
     ·have h18 := nm h18r
      refine sr fun K hK => ?_
      refine rn 1 HE HS ?_; clear HE HS; intro a w HE HS
      apply hK; clear hK K
      refine rt hQ HE HS ?_
      have e : onameS o = [100, 101, 108] := by
       unfold onameS
       rw [if_neg h6]
       rw [if_neg h9]
       rw [if_neg h12]
       rw [if_neg h15]
       rw [if_pos h18]
      show _ = _
      rw [e]
      rfl
     ·have h18 := nm h18r
      refine sr fun K hK => ?_
      refine rn 2 HE HS ?_; clear HE HS; intro a w HE HS
      apply hK; clear hK K
      refine cond HE rfl (fun h21r => ?_) (fun h21r => ?_)
      ·have h21 := nm h21r
       refine sr fun K hK => ?_
       refine rn 1 HE HS ?_; clear HE HS; intro a w HE HS
       apply hK; clear hK K
       refine rt hQ HE HS ?_
       have e : onameS o = [104, 97, 115] := by
        unfold onameS
        rw [if_neg h6]
        rw [if_neg h9]
        rw [if_neg h12]
        rw [if_neg h15]
        rw [if_neg h18]
        rw [if_pos h21]
       show _ = _
       rw [e]
       rfl
      ·have h21 := nm h21r
       refine sr fun K hK => ?_
       refine rn 2 HE HS ?_; clear HE HS; intro a w HE HS
       apply hK; clear hK K
       refine cond HE rfl (fun h24r => ?_) (fun h24r => ?_)
       ·have h24 := nm h24r
        refine sr fun K hK => ?_
        refine rn 1 HE HS ?_; clear HE HS; intro a w HE HS
        apply hK; clear hK K
        refine rt hQ HE HS ?_
        have e : onameS o = [112, 117, 116] := by
         unfold onameS
         rw [if_neg h6]
         rw [if_neg h9]
         rw [if_neg h12]
         rw [if_neg h15]
         rw [if_neg h18]
         rw [if_neg h21]
         rw [if_pos h24]
        show _ = _
        rw [e]
        rfl
       ·have h24 := nm h24r
        refine sr fun K hK => ?_
        refine rn 2 HE HS ?_; clear HE HS; intro a w HE HS
        apply hK; clear hK K
        refine cond HE rfl (fun h27r => ?_) (fun h27r => ?_)
        ·have h27 := nm h27r
         refine sr fun K hK => ?_
         refine rn 1 HE HS ?_; clear HE HS; intro a w HE HS
         apply hK; clear hK K
         refine rt hQ HE HS ?_
         have e : onameS o = [103, 101, 116] := by
          unfold onameS
          rw [if_neg h6]
          rw [if_neg h9]
          rw [if_neg h12]
          rw [if_neg h15]
          rw [if_neg h18]
          rw [if_neg h21]
          rw [if_neg h24]
          rw [if_pos h27]
         show _ = _
         rw [e]
         rfl
        ·have h27 := nm h27r
         refine sr fun K hK => ?_
         refine rn 2 HE HS ?_; clear HE HS; intro a w HE HS
         apply hK; clear hK K
         refine cond HE rfl (fun h30r => ?_) (fun h30r => ?_)
         ·have h30 := nm h30r
          refine sr fun K hK => ?_
          refine rn 1 HE HS ?_; clear HE HS; intro a w HE HS
          apply hK; clear hK K
          refine rt hQ HE HS ?_
          have e : onameS o = [112, 117, 115, 104] := by
           unfold onameS
           rw [if_neg h6]
           rw [if_neg h9]
           rw [if_neg h12]
           rw [if_neg h15]
           rw [if_neg h18]
           rw [if_neg h21]
           rw [if_neg h24]
           rw [if_neg h27]
           rw [if_pos h30]
          show _ = _
          rw [e]
          rfl
         ·have h30 := nm h30r
          refine sr fun K hK => ?_
          refine rn 2 HE HS ?_; clear HE HS; intro a w HE HS
          apply hK; clear hK K
          refine cond HE rfl (fun h33r => ?_) (fun h33r => ?_)
          ·have h33 := nm h33r
           refine sr fun K hK => ?_
           refine rn 1 HE HS ?_; clear HE HS; intro a w HE HS
           apply hK; clear hK K
           refine rt hQ HE HS ?_
           have e : onameS o = [112, 111, 112] := by
            unfold onameS
            rw [if_neg h6]
            rw [if_neg h9]
            rw [if_neg h12]
            rw [if_neg h15]
            rw [if_neg h18]
            rw [if_neg h21]
            rw [if_neg h24]
            rw [if_neg h27]
            rw [if_neg h30]
            rw [if_pos h33]
           show _ = _
           rw [e]
           rfl
          ·have h33 := nm h33r
           refine sr fun K hK => ?_
           refine rn 2 HE HS ?_; clear HE HS; intro a w HE HS
           apply hK; clear hK K
           refine cond HE rfl (fun h36r => ?_) (fun h36r => ?_)
           ·have h36 := nm h36r
            refine sr fun K hK => ?_
            refine rn 1 HE HS ?_; clear HE HS; intro a w HE HS
            apply hK; clear hK K
            refine rt hQ HE HS ?_
            have e : onameS o = [116, 97, 107, 101] := by
             unfold onameS
             rw [if_neg h6]
             rw [if_neg h9]
             rw [if_neg h12]
             rw [if_neg h15]
             rw [if_neg h18]
             rw [if_neg h21]
             rw [if_neg h24]
             rw [if_neg h27]
             rw [if_neg h30]
             rw [if_neg h33]
             rw [if_pos h36]
            show _ = _
            rw [e]
            rfl
           ·have h36 := nm h36r
            refine sr fun K hK => ?_
            refine rn 2 HE HS ?_; clear HE HS; intro a w HE HS
            apply hK; clear hK K
            refine cond HE rfl (fun h39r => ?_) (fun h39r => ?_)
            ·have h39 := nm h39r
             refine sr fun K hK => ?_
             refine rn 1 HE HS ?_; clear HE HS; intro a w HE HS
             apply hK; clear hK K
             refine rt hQ HE HS ?_
             have e : onameS o = [102, 114, 101, 101] := by
              unfold onameS
              rw [if_neg h6]
              rw [if_neg h9]
              rw [if_neg h12]
              rw [if_neg h15]
              rw [if_neg h18]
              rw [if_neg h21]
              rw [if_neg h24]
              rw [if_neg h27]
              rw [if_neg h30]
              rw [if_neg h33]
              rw [if_neg h36]
              rw [if_pos h39]
             show _ = _
             rw [e]
             rfl
            ·have h39 := nm h39r
             refine sr fun K hK => ?_
             refine rn 2 HE HS ?_; clear HE HS; intro a w HE HS
             apply hK; clear hK K
             refine cond HE rfl (fun h42r => ?_) (fun h42r => ?_)
             ·have h42 := nm h42r
              refine sr fun K hK => ?_
              refine rn 1 HE HS ?_; clear HE HS; intro a w HE HS
              apply hK; clear hK K
              refine rt hQ HE HS ?_
              have e : onameS o = [115, 99, 97, 110] := by
               unfold onameS
               rw [if_neg h6]
               rw [if_neg h9]
               rw [if_neg h12]
               rw [if_neg h15]
               rw [if_neg h18]
               rw [if_neg h21]
               rw [if_neg h24]
               rw [if_neg h27]
               rw [if_neg h30]
               rw [if_neg h33]
               rw [if_neg h36]
               rw [if_neg h39]
               rw [if_pos h42]
              show _ = _
              rw [e]
              rfl
             ·have h42 := nm h42r
              refine wp_skip ?_
              refine hK2 _ _ ?_; clear hK2
              refine sr fun K hK => ?_
              refine rn 1 HE HS ?_; clear HE HS; intro a w HE HS
              apply hK; clear hK K
              refine rt hQ HE HS ?_
              have e : onameS o = [] := by
               unfold onameS
               rw [if_neg h6]
               rw [if_neg h9]
               rw [if_neg h12]
               rw [if_neg h15]
               rw [if_neg h18]
               rw [if_neg h21]
               rw [if_neg h24]
               rw [if_neg h27]
               rw [if_neg h30]
               rw [if_neg h33]
               rw [if_neg h36]
               rw [if_neg h39]
               rw [if_neg h42]
              show _ = _
              rw [e]
              rfl

/-! `incognito/incognitoref09.Takes` -/
set_option maxRecDepth 100000 in
set_option maxHeartbeats 4000000 in
theorem c_Takes9 (d : Int) (x : Val) (w0 : World) (G : Heap) (hG : Sub G w0) (hv : x.Wf):
  Calls Tryz.prog 48 #[.int .i64 d, .agg #[.int .i64 x.k, .int .i64 x.n, str x.s]] w0 (Ret w0 G (fun v _ => v = .bool (takesB d x))) := by
 refine enter Tryz.func48 rfl Tryz.ntmps48 rfl ?_
 intro Q hQ a HE
 have HS := St.start0 hG
 refine sr fun K hK => ?_
 refine o_bx3 HE rfl HS rfl ?_; clear HE HS; intro B3 w a HS HE
 refine rn 1 HE HS ?_; clear HE HS; intro a w HE HS
 apply hK; clear hK K
 refine wp_seq_k (fun K3 hK2 => ?_)
 refine sr fun K hK => ?_
 refine rn 3 HE HS ?_; clear HE HS; intro a w HE HS
 refine cutG 3 10 (.bool ((decide (0 ≤ d)) && (decide (d ≤ 4)))) HE HS ?_ ?_
 ·refine bsp HE (t := 7) rfl (fun hb4 => ?_) (fun hb4 => ?_)
  ·have hk5 := nm hb4
   refine rn 3 HE HS ?_; clear HE HS; intro a w HE HS
   exact ⟨HS, HE.cutT (by rw [hb4] <;> rfl)⟩
  ·skip
   refine rn 3 HE HS ?_; clear HE HS; intro a w HE HS
   exact ⟨HS, HE.cutT (by rw [hb4] <;> rfl)⟩
 clear HE HS; intro a w HE HS
 apply hK; clear hK K
 refine cond HE rfl (fun h7r => ?_) (fun h7r => ?_)
 ·have h7 := nm h7r
  refine sr fun K hK => ?_
  refine rn 1 HE HS ?_; clear HE HS; intro a w HE HS
  refine o_callP HE rfl HS rfl rfl T.g23 (c_Name7 x _ _ HS.sub (by first | assumption | exact parse_wf (by omega) | (constructor <;> first | assumption | (simp only [I64]; omega) | (simp; omega)))) ?_
  clear HE HS; rintro _ w a HS rfl HE
  refine rn 1 HE HS ?_; clear HE HS; intro a w HE HS
  apply hK; clear hK K
  refine rt hQ HE HS ?_
  show _ = _
  simp only [packed, Value.bool.injEq]
  unfold takesB
  try unfold nameB
  cases rightV x <;> (first | (simp_all; done) | (simp_all; omega) | grind)
 ·have h7 := nm h7r
  refine wp_skip ?_
  refine hK2 _ _ ?_; clear hK2
  refine sr fun K hK => ?_
  refine rn 3 HE HS ?_; clear HE HS; intro a w HE HS
  refine cutG 3 18 (.bool ((decide (d = 5)) && (rightV x))) HE HS ?_ ?_
  ·refine bsp HE (t := 15) rfl (fun hb9 => ?_) (fun hb9 => ?_)
   ·have hk10 := nm hb9
    refine rn 1 HE HS ?_; clear HE HS; intro a w HE HS
    refine op_on HE rfl rfl hb9 ?_
    refine o_callP HE rfl HS rfl rfl T.g25 (c_Right7 x _ _ HS.sub (by first | assumption | exact hv | (constructor <;> first | assumption | (simp only [I64]; omega) | (simp; omega)))) ?_
    clear HE HS; rintro _ w a HS rfl HE
    refine rn 1 HE HS ?_; clear HE HS; intro a w HE HS
    exact ⟨HS, HE.cutT (by rw [hb9] <;> rfl)⟩
   ·skip
    refine rn 3 HE HS ?_; clear HE HS; intro a w HE HS
    exact ⟨HS, HE.cutT (by rw [hb9] <;> rfl)⟩
  clear HE HS; intro a w HE HS
  refine rn 1 HE HS ?_; clear HE HS; intro a w HE HS
  refine cutG 4 23 (.bool (((decide (d = 5)) && (rightV x)) && (decide (x.k = 1)))) HE HS ?_ ?_
  ·refine bsp HE (t := 19) rfl (fun hb11 => ?_) (fun hb11 => ?_)
   ·have hk12 := nm hb11
    refine rn 4 HE HS ?_; clear HE HS; intro a w HE HS
    exact ⟨HS, HE.cutT (by rw [hb11] <;> rfl)⟩
   ·skip
    refine rn 4 HE HS ?_; clear HE HS; intro a w HE HS
    exact ⟨HS, HE.cutT (by rw [hb11] <;> rfl)⟩
  clear HE HS; intro a w HE HS
  refine rn 1 HE HS ?_; clear HE HS; intro a w HE HS
  refine cutG 12 36 (.bool ((((decide (d = 5)) && (rightV x)) && (decide (x.k = 1))) || (((decide (d = 6)) && (rightV x)) && (decide (x.k = 3))))) HE HS ?_ ?_
  ·refine bsp HE (t := 24) rfl (fun hb13 => ?_) (fun hb13 => ?_)
   ·skip
    refine rn 12 HE HS ?_; clear HE HS; intro a w HE HS
    exact ⟨HS, HE.cutT (by rw [hb13] <;> rfl)⟩
   ·have hk14 := nm hb13
    refine rn 3 HE HS ?_; clear HE HS; intro a w HE HS
    refine cutG 3 30 (.bool ((decide (d = 6)) && (rightV x))) HE HS ?_ ?_
    ·refine bsp HE (t := 27) rfl (fun hb15 => ?_) (fun hb15 => ?_)
     ·have hk16 := nm hb15
      refine rn 1 HE HS ?_; clear HE HS; intro a w HE HS
      refine op_on HE rfl rfl hb15 ?_
      refine o_callP HE rfl HS rfl rfl T.g25 (c_Right7 x _ _ HS.sub (by first | assumption | exact hv | (constructor <;> first | assumption | (simp only [I64]; omega) | (simp; omega)))) ?_
      clear HE HS; rintro _ w a HS rfl HE
      refine rn 1 HE HS ?_; clear HE HS; intro a w HE HS
      exact ⟨HS, HE.cutT (by rw [hb15] <;> rfl)⟩
     ·skip
      refine rn 3 HE HS ?_; clear HE HS; intro a w HE HS
      exact ⟨HS, HE.cutT (by rw [hb15] <;> rfl)⟩
    clear HE HS; intro a w HE HS
    refine rn 1 HE HS ?_; clear HE HS; intro a w HE HS
    refine cutG 4 35 (.bool (((decide (d = 6)) && (rightV x)) && (decide (x.k = 3)))) HE HS ?_ ?_
    ·refine bsp HE (t := 31) rfl (fun hb17 => ?_) (fun hb17 => ?_)
     ·have hk18 := nm hb17
      refine rn 4 HE HS ?_; clear HE HS; intro a w HE HS
      exact ⟨HS, HE.cutT (by rw [hb17] <;> rfl)⟩
     ·skip
      refine rn 4 HE HS ?_; clear HE HS; intro a w HE HS
      exact ⟨HS, HE.cutT (by rw [hb17] <;> rfl)⟩
    clear HE HS; intro a w HE HS
    refine rn 1 HE HS ?_; clear HE HS; intro a w HE HS
    exact ⟨HS, HE.cutT (by rw [hb13] <;> rfl)⟩
  clear HE HS; intro a w HE HS
  refine rn 1 HE HS ?_; clear HE HS; intro a w HE HS
  apply hK; clear hK K
  refine rt hQ HE HS ?_
  show _ = _
  simp only [packed, Value.bool.injEq]
  unfold takesB
  try unfold nameB
  cases rightV x <;> (first | (simp_all; done) | (simp_all; omega) | grind)

/-! `incognito/incognitoref09.Find` -/
set_option maxRecDepth 100000 in
set_option maxHeartbeats 4000000 in
theorem c_Find9 (m o : Int) (w0 : World) (G : Heap) (hG : Sub G w0) :
  Calls Tryz.prog 47 #[.int .i64 m, .int .i64 o] w0 (Ret w0 G (fun v G' => ∃ A c, v = .agg #[.slice A (doms (findS m o).1.ins).length c, .int .i64 (findS m o).1.out, .bool (findS m o).1.may, .bool (findS m o).2] ∧ (doms (findS m o).1.ins).length ≤ c ∧ Rd (Knd.int .i64) G' A (doms (findS m o).1.ins))) := by
 refine enter Tryz.func47 rfl Tryz.ntmps47 rfl ?_
 intro Q hQ a HE
 have HS := St.start0 hG
 refine sr fun K hK => ?_
 refine o_allocZ HE rfl HS ?_; clear HE HS; intro B4 w a HS HE
 apply hK; clear hK K
 refine wp_seq_k (fun K3 hK2 => ?_)
 refine sr fun K hK => ?_
 refine rn 1 HE HS ?_; clear HE HS; intro a w HE HS
 refine o_callP HE rfl HS rfl rfl T.g33 (c_mname m _ _ HS.sub) ?_
 clear HE HS; rintro _ w a HS rfl HE
 refine o_cat HE rfl rfl rfl (by (have : (mnameS m).length ≤ 5 := mname_len m; simp; omega)) ?_; clear HE; intro a HE
 refine rn 1 HE HS ?_; clear HE HS; intro a w HE HS
 refine o_callP HE rfl HS rfl rfl T.g34 (c_oname o _ _ HS.sub) ?_
 clear HE HS; rintro _ w a HS rfl HE
 refine o_cat HE rfl rfl rfl (by (have : (mnameS m).length ≤ 5 := mname_len m; have : (onameS o).length ≤ 5 := oname_len o; simp; omega)) ?_; clear HE; intro a HE
 apply hK; clear hK K
 refine wp_block ?_
 refine wp_seq_k (fun K6 hK5 => ?_)
 refine sr fun K hK => ?_
 refine rn 2 HE HS ?_; clear HE HS; intro a w HE HS
 apply hK; clear hK K
 refine cond HE rfl (fun h8r => ?_) (fun h8r => ?_)
 ·have h8 := nm h8r
  refine wp_skip ?_
  refine hK5 _ _ ?_; clear hK5
  refine cond HE rfl (fun h9r => ?_) (fun h9r => ?_)
  ·have h9 := nm h9r
   refine sr fun K hK => ?_
   refine o_buildSl (cs := #[.int .i64 2]) [(0, _)] HE rfl HS rfl T.l44 (by kernel_rfl) ⟨rfl, trivial⟩ ?_; clear HE HS; intro B18 w a HS HE
   obtain ⟨G10, hle12, hC11, HS'⟩ := HS.stillHead (n := 1) rfl; clear HS; have HS := HS'; clear HS'
   have hW13 := Rd.ofCells (K := Knd.int .i64) (xs := [2]) hC11 ⟨rfl, rfl⟩
   refine o_build (cs := #[.slice (some ⟨B18, 0, none⟩) 1 1, .int .i64 (-1), .bool false, .bool true]) HE rfl rfl (by kernel_rfl) ?_; clear HE; intro a HE
   refine rn 1 HE HS ?_; clear HE HS; intro a w HE HS
   apply hK; clear hK K
   refine rt hQ HE HS ?_
   have e : sgnF m o = ([2], (-1), false, true) := by
    rw [← find_sgn]
    exact sgn_hit h8 (by decide)
   have e1 : ([2] : List Int) = doms (findS m o).1.ins := congrArg (fun z => z.1) e.symm
   have e2 : (-1) = (findS m o).1.out := congrArg (fun z => z.2.1) e.symm
   have e3 : false = (findS m o).1.may := congrArg (fun z => z.2.2.1) e.symm
   have e4 : true = (findS m o).2 := congrArg (fun z => z.2.2.2) e.symm
   exact ⟨(some ⟨B18, 0, none⟩), 1, by rw [← e1, ← e2, ← e3, ← e4]; rfl, by rw [← e1]; decide, (by rw [← e1]; exact hW13)⟩
  ·exact absurd (h8r.symm.trans h9r) (by decide)
 ·have h8 := nm h8r
  refine sr fun K hK => ?_
  refine rn 2 HE HS ?_; clear HE HS; intro a w HE HS
  apply hK; clear hK K
  refine cond HE rfl (fun h16r => ?_) (fun h16r => ?_)
  ·have h16 := nm h16r
   refine wp_skip ?_
   refine hK5 _ _ ?_; clear hK5
   refine cond HE rfl (fun h17r => ?_) (fun h17r => ?_)
   ·have h17 := nm h17r
    refine sr fun K hK => ?_
    refine o_buildSl (cs := #[.int .i64 2]) [(0, _)] HE rfl HS rfl T.l44 (by kernel_rfl) ⟨rfl, trivial⟩ ?_; clear HE HS; intro B18 w a HS HE
    obtain ⟨G18, hle20, hC19, HS'⟩ := HS.stillHead (n := 1) rfl; clear HS; have HS := HS'; clear HS'
    have hW21 := Rd.ofCells (K := Knd.int .i64) (xs := [2]) hC19 ⟨rfl, rfl⟩
    refine o_build (cs := #[.slice (some ⟨B18, 0, none⟩) 1 1, .int .i64 (-1), .bool false, .bool true]) HE rfl rfl (by kernel_rfl) ?_; clear HE; intro a HE
    refine rn 1 HE HS ?_; clear HE HS; intro a w HE HS
    apply hK; clear hK K
    refine rt hQ HE HS ?_
    have e : sgnF m o = ([2], (-1), false, true) := by
     rw [← find_sgn]
     exact sgn_hit h16 (by decide)
    have e1 : ([2] : List Int) = doms (findS m o).1.ins := congrArg (fun z => z.1) e.symm
    have e2 : (-1) = (findS m o).1.out := congrArg (fun z => z.2.1) e.symm
    have e3 : false = (findS m o).1.may := congrArg (fun z => z.2.2.1) e.symm
    have e4 : true = (findS m o).2 := congrArg (fun z => z.2.2.2) e.symm
    exact ⟨(some ⟨B18, 0, none⟩), 1, by rw [← e1, ← e2, ← e3, ← e4]; rfl, by rw [← e1]; decide, (by rw [← e1]; exact hW21)⟩
   ·exact absurd (h16r.symm.trans h17r) (by decide)
  ·have h16 := nm h16r
   refine sr fun K hK => ?_
   refine rn 2 HE HS ?_; clear HE HS; intro a w HE HS
   apply hK; clear hK K
   refine cond HE rfl (fun h24r => ?_) (fun h24r => ?_)
   ·have h24 := nm h24r
    refine wp_skip ?_
    refine hK5 _ _ ?_; clear hK5
    refine cond HE rfl (fun h25r => ?_) (fun h25r => ?_)
    ·have h25 := nm h25r
     refine sr fun K hK => ?_
     refine o_buildSl (cs := #[.int .i64 2]) [(0, _)] HE rfl HS rfl T.l44 (by kernel_rfl) ⟨rfl, trivial⟩ ?_; clear HE HS; intro B18 w a HS HE
     obtain ⟨G26, hle28, hC27, HS'⟩ := HS.stillHead (n := 1) rfl; clear HS; have HS := HS'; clear HS'
     have hW29 := Rd.ofCells (K := Knd.int .i64) (xs := [2]) hC27 ⟨rfl, rfl⟩
     refine o_build (cs := #[.slice (some ⟨B18, 0, none⟩) 1 1, .int .i64 (-1), .bool false, .bool true]) HE rfl rfl (by kernel_rfl) ?_; clear HE; intro a HE
     refine rn 1 HE HS ?_; clear HE HS; intro a w HE HS
     apply hK; clear hK K
     refine rt hQ HE HS ?_
     have e : sgnF m o = ([2], (-1), false, true) := by
      rw [← find_sgn]
      exact sgn_hit h24 (by decide)
     have e1 : ([2] : List Int) = doms (findS m o).1.ins := congrArg (fun z => z.1) e.symm
     have e2 : (-1) = (findS m o).1.out := congrArg (fun z => z.2.1) e.symm
     have e3 : false = (findS m o).1.may := congrArg (fun z => z.2.2.1) e.symm
     have e4 : true = (findS m o).2 := congrArg (fun z => z.2.2.2) e.symm
     exact ⟨(some ⟨B18, 0, none⟩), 1, by rw [← e1, ← e2, ← e3, ← e4]; rfl, by rw [← e1]; decide, (by rw [← e1]; exact hW29)⟩
    ·exact absurd (h24r.symm.trans h25r) (by decide)
   ·have h24 := nm h24r
    refine sr fun K hK => ?_
    refine rn 2 HE HS ?_; clear HE HS; intro a w HE HS
    apply hK; clear hK K
    refine cond HE rfl (fun h32r => ?_) (fun h32r => ?_)
    ·have h32 := nm h32r
     refine wp_skip ?_
     refine hK5 _ _ ?_; clear hK5
     refine cond HE rfl (fun h33r => ?_) (fun h33r => ?_)
     ·have h33 := nm h33r
      refine sr fun K hK => ?_
      refine o_buildSl (cs := #[.int .i64 2]) [(0, _)] HE rfl HS rfl T.l44 (by kernel_rfl) ⟨rfl, trivial⟩ ?_; clear HE HS; intro B18 w a HS HE
      obtain ⟨G34, hle36, hC35, HS'⟩ := HS.stillHead (n := 1) rfl; clear HS; have HS := HS'; clear HS'
      have hW37 := Rd.ofCells (K := Knd.int .i64) (xs := [2]) hC35 ⟨rfl, rfl⟩
      refine o_build (cs := #[.slice (some ⟨B18, 0, none⟩) 1 1, .int .i64 (-1), .bool false, .bool true]) HE rfl rfl (by kernel_rfl) ?_; clear HE; intro a HE
      refine rn 1 HE HS ?_; clear HE HS; intro a w HE HS
      apply hK; clear hK K
      refine rt hQ HE HS ?_
      have e : sgnF m o = ([2], (-1), false, true) := by
       rw [← find_sgn]
       exact sgn_hit h32 (by decide)
      have e1 : ([2] : List Int) = doms (findS m o).1.ins := congrArg (fun z => z.1) e.symm
      have e2 : (-1) = (findS m o).1.out := congrArg (fun z => z.2.1) e.symm
      have e3 : false = (findS m o).1.may := congrArg (fun z => z.2.2.1) e.symm
      have e4 : true = (findS m o).2 := congrArg (fun z => z.2.2.2) e.symm
      exact ⟨(some ⟨B18, 0, none⟩), 1, by rw [← e1, ← e2, ← e3, ← e4]; rfl, by rw [← e1]; decide, (by rw [← e1]; exact hW37)⟩
     ·exact absurd (h32r.symm.trans h33r) (by decide)
    ·have h32 := nm h32r
     refine sr fun K hK => ?_
     refine rn 2 HE HS ?_; clear HE HS; intro a w HE HS
     apply hK; clear hK K
     refine cond HE rfl (fun h40r => ?_) (fun h40r => ?_)
     ·have h40 := nm h40r
      refine wp_skip ?_
      refine hK5 _ _ ?_; clear hK5
      refine cond HE rfl (fun h41r => ?_) (fun h41r => ?_)
      ·have h41 := nm h41r
       refine sr fun K hK => ?_
       refine o_buildSl (cs := #[.int .i64 2]) [(0, _)] HE rfl HS rfl T.l44 (by kernel_rfl) ⟨rfl, trivial⟩ ?_; clear HE HS; intro B18 w a HS HE
       obtain ⟨G42, hle44, hC43, HS'⟩ := HS.stillHead (n := 1) rfl; clear HS; have HS := HS'; clear HS'
       have hW45 := Rd.ofCells (K := Knd.int .i64) (xs := [2]) hC43 ⟨rfl, rfl⟩
       refine o_build (cs := #[.slice (some ⟨B18, 0, none⟩) 1 1, .int .i64 (-1), .bool false, .bool true]) HE rfl rfl (by kernel_rfl) ?_; clear HE; intro a HE
       refine rn 1 HE HS ?_; clear HE HS; intro a w HE HS
       apply hK; clear hK K
       refine rt hQ HE HS ?_
       have e : sgnF m o = ([2], (-1), false, true) := by
        rw [← find_sgn]
        exact sgn_hit h40 (by decide)
       have e1 : ([2] : List Int) = doms (findS m o).1.ins := congrArg (fun z => z.1) e.symm
       have e2 : (-1) = (findS m o).1.out := congrArg (fun z => z.2.1) e.symm
       have e3 : false = (findS m o).1.may := congrArg (fun z => z.2.2.1) e.symm
       have e4 : true = (findS m o).2 := congrArg (fun z => z.2.2.2) e.symm
       exact ⟨(some ⟨B18, 0, none⟩), 1, by rw [← e1, ← e2, ← e3, ← e4]; rfl, by rw [← e1]; decide, (by rw [← e1]; exact hW45)⟩
      ·exact absurd (h40r.symm.trans h41r) (by decide)
     ·have h40 := nm h40r
      refine wp_region_lit ?_
      refine rn 2 HE HS ?_; clear HE HS; intro a w HE HS
      refine hK5 _ _ ?_; clear hK5
      refine cond HE rfl (fun h47r => ?_) (fun h47r => ?_)
      ·have h47 := nm h47r
       refine sr fun K hK => ?_
       refine o_buildSl (cs := #[.int .i64 2]) [(0, _)] HE rfl HS rfl T.l44 (by kernel_rfl) ⟨rfl, trivial⟩ ?_; clear HE HS; intro B18 w a HS HE
       obtain ⟨G48, hle50, hC49, HS'⟩ := HS.stillHead (n := 1) rfl; clear HS; have HS := HS'; clear HS'
       have hW51 := Rd.ofCells (K := Knd.int .i64) (xs := [2]) hC49 ⟨rfl, rfl⟩
       refine o_build (cs := #[.slice (some ⟨B18, 0, none⟩) 1 1, .int .i64 (-1), .bool false, .bool true]) HE rfl rfl (by kernel_rfl) ?_; clear HE; intro a HE
       refine rn 1 HE HS ?_; clear HE HS; intro a w HE HS
       apply hK; clear hK K
       refine rt hQ HE HS ?_
       have e : sgnF m o = ([2], (-1), false, true) := by
        rw [← find_sgn]
        exact sgn_hit h47 (by decide)
       have e1 : ([2] : List Int) = doms (findS m o).1.ins := congrArg (fun z => z.1) e.symm
       have e2 : (-1) = (findS m o).1.out := congrArg (fun z => z.2.1) e.symm
       have e3 : false = (findS m o).1.may := congrArg (fun z => z.2.2.1) e.symm
       have e4 : true = (findS m o).2 := congrArg (fun z => z.2.2.2) e.symm
       exact ⟨(some ⟨B18, 0, none⟩), 1, by rw [← e1, ← e2, ← e3, ← e4]; rfl, by rw [← e1]; decide, (by rw [← e1]; exact hW51)⟩
      ·have h47 := nm h47r
       refine wp_seq_k (fun K54 hK53 => ?_)
       refine sr fun K hK => ?_
       refine rn 2 HE HS ?_; clear HE HS; intro a w HE HS
       apply hK; clear hK K
       refine cond HE rfl (fun h56r => ?_) (fun h56r => ?_)
       ·have h56 := nm h56r
        refine wp_skip ?_
        refine hK53 _ _ ?_; clear hK53
        refine cond HE rfl (fun h57r => ?_) (fun h57r => ?_)
        ·have h57 := nm h57r
         refine sr fun K hK => ?_
         refine o_build (cs := #[.slice none 0 0, .int .i64 2, .bool true, .bool true]) HE rfl rfl (by kernel_rfl) ?_; clear HE; intro a HE
         refine rn 1 HE HS ?_; clear HE HS; intro a w HE HS
         apply hK; clear hK K
         refine rt hQ HE HS ?_
         have e : sgnF m o = ([], 2, true, true) := by
          rw [← find_sgn]
          exact sgn_hit h56 (by decide)
         have e1 : ([] : List Int) = doms (findS m o).1.ins := congrArg (fun z => z.1) e.symm
         have e2 : 2 = (findS m o).1.out := congrArg (fun z => z.2.1) e.symm
         have e3 : true = (findS m o).1.may := congrArg (fun z => z.2.2.1) e.symm
         have e4 : true = (findS m o).2 := congrArg (fun z => z.2.2.2) e.symm
         exact ⟨none, 0, by rw [← e1, ← e2, ← e3, ← e4]; rfl, by rw [← e1]; decide, (by rw [← e1]; exact .nil)⟩
        ·exact absurd (h56r.symm.trans h57r) (by decide)
       ·have h56 := nm h56r
        refine sr fun K hK => ?_
        refine rn 2 HE HS ?_; clear HE HS; intro a w HE HS
        apply hK; clear hK K
        refine cond HE rfl (fun h60r => ?_) (fun h60r => ?_)
        ·have h60 := nm h60r
         refine wp_skip ?_
         refine hK53 _ _ ?_; clear hK53
         refine cond HE rfl (fun h61r => ?_) (fun h61r => ?_)
         ·have h61 := nm h61r
          refine sr fun K hK => ?_
          refine o_build (cs := #[.slice none 0 0, .int .i64 2, .bool true, .bool true]) HE rfl rfl (by kernel_rfl) ?_; clear HE; intro a HE
          refine rn 1 HE HS ?_; clear HE HS; intro a w HE HS
          apply hK; clear hK K
          refine rt hQ HE HS ?_
          have e : sgnF m o = ([], 2, true, true) := by
           rw [← find_sgn]
           exact sgn_hit h60 (by decide)
          have e1 : ([] : List Int) = doms (findS m o).1.ins := congrArg (fun z => z.1) e.symm
          have e2 : 2 = (findS m o).1.out := congrArg (fun z => z.2.1) e.symm
          have e3 : true = (findS m o).1.may := congrArg (fun z => z.2.2.1) e.symm
          have e4 : true = (findS m o).2 := congrArg (fun z => z.2.2.2) e.symm
          exact ⟨none, 0, by rw [← e1, ← e2, ← e3, ← e4]; rfl, by rw [← e1]; decide, (by rw [← e1]; exact .nil)⟩
         ·exact absurd (h60r.symm.trans h61r) (by decide)
        ·have h60 := nm h60r
         refine sr fun K hK => ?_
         refine rn 2 HE HS ?_; clear HE HS; intro a w HE HS
         apply hK; clear hK K
         refine cond HE rfl (fun h64r => ?_) (fun h64r => ?_)
         ·have h64 := nm h64r
          refine wp_skip ?_
          refine hK53 _ _ ?_; clear hK53
          refine cond HE rfl (fun h65r => ?_) (fun h65r => ?_)
          ·have h65 := nm h65r
           refine sr fun K hK => ?_
           refine o_build (cs := #[.slice none 0 0, .int .i64 2, .bool true, .bool true]) HE rfl rfl (by kernel_rfl) ?_; clear HE; intro a HE
           refine rn 1 HE HS ?_; clear HE HS; intro a w HE HS
           apply hK; clear hK K
           refine rt hQ HE HS ?_
           have e : sgnF m o = ([], 2, true, true) := by
            rw [← find_sgn]
            exact sgn_hit h64 (by decide)
           have e1 : ([] : List Int) = doms (findS m o).1.ins := congrArg (fun z => z.1) e.symm
           have e2 : 2 = (findS m o).1.out := congrArg (fun z => z.2.1) e.symm
           have e3 : true = (findS m o).1.may := congrArg (fun z => z.2.2.1) e.symm
           have e4 : true = (findS m o).2 := congrArg (fun z => z.2.2.2) e.symm
           exact ⟨none, 0, by rw [← e1, ← e2, ← e3, ← e4]; rfl, by rw [← e1]; decide, (by rw [← e1]; exact .nil)⟩
          ·exact absurd (h64r.symm.trans h65r) (by decide)
         ·have h64 := nm h64r
          refine wp_region_lit ?_
          refine rn 2 HE HS ?_; clear HE HS; intro a w HE HS
          refine hK53 _ _ ?_; clear hK53
          refine cond HE rfl (fun h67r => ?_) (fun h67r => ?_)
          ·have h67 := nm h67r
           refine sr fun K hK => ?_
           refine o_build (cs := #[.slice none 0 0, .int .i64 2, .bool true, .bool true]) HE rfl rfl (by kernel_rfl) ?_; clear HE; intro a HE
           refine rn 1 HE HS ?_; clear HE HS; intro a w HE HS
           apply hK; clear hK K
           refine rt hQ HE HS ?_
           have e : sgnF m o = ([], 2, true, true) := by
            rw [← find_sgn]
            exact sgn_hit h67 (by decide)
           have e1 : ([] : List Int) = doms (findS m o).1.ins := congrArg (fun z => z.1) e.symm
           have e2 : 2 = (findS m o).1.out := congrArg (fun z => z.2.1) e.symm
           have e3 : true = (findS m o).1.may := congrArg (fun z => z.2.2.1) e.symm
           have e4 : true = (findS m o).2 := congrArg (fun z => z.2.2.2) e.symm
           exact ⟨none, 0, by rw [← e1, ← e2, ← e3, ← e4]; rfl, by rw [← e1]; decide, (by rw [← e1]; exact .nil)⟩
          ·have h67 := nm h67r
           refine sr fun K hK => ?_
           refine rn 2 HE HS ?_; clear HE HS; intro a w HE HS
           apply hK; clear hK K
           refine cond HE rfl (fun h70r => ?_) (fun h70r => ?_)
           ·have h70 := nm h70r
            refine sr fun K hK => ?_
            refine o_buildSl (cs := #[.int .i64 2, .int .i64 2]) [(0, _), (1, _)] HE rfl HS rfl T.l44 (by kernel_rfl) ⟨rfl, rfl, trivial⟩ ?_; clear HE HS; intro B28 w a HS HE
            obtain ⟨G71, hle73, hC72, HS'⟩ := HS.stillHead (n := 2) rfl; clear HS; have HS := HS'; clear HS'
            have hW74 := Rd.ofCells (K := Knd.int .i64) (xs := [2, 2]) hC72 ⟨rfl, rfl, rfl⟩
            refine o_build (cs := #[.slice (some ⟨B28, 0, none⟩) 2 2, .int .i64 6, .bool false, .bool true]) HE rfl rfl (by kernel_rfl) ?_; clear HE; intro a HE
            refine rn 1 HE HS ?_; clear HE HS; intro a w HE HS
            apply hK; clear hK K
            refine rt hQ HE HS ?_
            have e : sgnF m o = ([2, 2], 6, false, true) := by
             rw [← find_sgn]
             exact sgn_hit h70 (by decide)
            have e1 : ([2, 2] : List Int) = doms (findS m o).1.ins := congrArg (fun z => z.1) e.symm
            have e2 : 6 = (findS m o).1.out := congrArg (fun z => z.2.1) e.symm
            have e3 : false = (findS m o).1.may := congrArg (fun z => z.2.2.1) e.symm
            have e4 : true = (findS m o).2 := congrArg (fun z => z.2.2.2) e.symm
            exact ⟨(some ⟨B28, 0, none⟩), 2, by rw [← e1, ← e2, ← e3, ← e4]; rfl, by rw [← e1]; decide, (by rw [← e1]; exact hW74)⟩
           ·have h70 := nm h70r
            refine sr fun K hK => ?_
            refine rn 2 HE HS ?_; clear HE HS; intro a w HE HS
            apply hK; clear hK K
            refine cond HE rfl (fun h77r => ?_) (fun h77r => ?_)
            ·have h77 := nm h77r
             refine sr fun K hK => ?_
             refine o_buildSl (cs := #[.int .i64 2]) [(0, _)] HE rfl HS rfl T.l44 (by kernel_rfl) ⟨rfl, trivial⟩ ?_; clear HE HS; intro B32 w a HS HE
             obtain ⟨G78, hle80, hC79, HS'⟩ := HS.stillHead (n := 1) rfl; clear HS; have HS := HS'; clear HS'
             have hW81 := Rd.ofCells (K := Knd.int .i64) (xs := [2]) hC79 ⟨rfl, rfl⟩
             refine o_build (cs := #[.slice (some ⟨B32, 0, none⟩) 1 1, .int .i64 6, .bool false, .bool true]) HE rfl rfl (by kernel_rfl) ?_; clear HE; intro a HE
             refine rn 1 HE HS ?_; clear HE HS; intro a w HE HS
             apply hK; clear hK K
             refine rt hQ HE HS ?_
             have e : sgnF m o = ([2], 6, false, true) := by
              rw [← find_sgn]
              exact sgn_hit h77 (by decide)
             have e1 : ([2] : List Int) = doms (findS m o).1.ins := congrArg (fun z => z.1) e.symm
             have e2 : 6 = (findS m o).1.out := congrArg (fun z => z.2.1) e.symm
             have e3 : false = (findS m o).1.may := congrArg (fun z => z.2.2.1) e.symm
             have e4 : true = (findS m o).2 := congrArg (fun z => z.2.2.2) e.symm
             exact ⟨(some ⟨B32, 0, none⟩), 1, by rw [← e1, ← e2, ← e3, ← e4]; rfl, by rw [← e1]; decide, (by rw [← e1]; exact hW81)⟩
            ·have h77 := nm h77r
             refine sr fun K hK => ?_
             refine rn 2 HE HS ?_; clear HE HS; intro a w HE HS
             apply hK; clear hK K
             refine cond HE rfl (fun h84r => ?_) (fun h84r => ?_)
             ·have h84 := nm h84r
              refine sr fun K hK => ?_
              refine o_buildSl (cs := #[.int .i64 3, .int .i64 2]) [(0, _), (1, _)] HE rfl HS rfl T.l44 (by kernel_rfl) ⟨rfl, rfl, trivial⟩ ?_; clear HE HS; intro B36 w a HS HE
              obtain ⟨G85, hle87, hC86, HS'⟩ := HS.stillHead (n := 2) rfl; clear HS; have HS := HS'; clear HS'
              have hW88 := Rd.ofCells (K := Knd.int .i64) (xs := [3, 2]) hC86 ⟨rfl, rfl, rfl⟩
              refine o_build (cs := #[.slice (some ⟨B36, 0, none⟩) 2 2, .int .i64 (-1), .bool false, .bool true]) HE rfl rfl (by kernel_rfl) ?_; clear HE; intro a HE
              refine rn 1 HE HS ?_; clear HE HS; intro a w HE HS
              apply hK; clear hK K
              refine rt hQ HE HS ?_
              have e : sgnF m o = ([3, 2], (-1), false, true) := by
               rw [← find_sgn]
               exact sgn_hit h84 (by decide)
              have e1 : ([3, 2] : List Int) = doms (findS m o).1.ins := congrArg (fun z => z.1) e.symm
              have e2 : (-1) = (findS m o).1.out := congrArg (fun z => z.2.1) e.symm
              have e3 : false = (findS m o).1.may := congrArg (fun z => z.2.2.1) e.symm
              have e4 : true = (findS m o).2 := congrArg (fun z => z.2.2.2) e.symm
              exact ⟨(some ⟨B36, 0, none⟩), 2, by rw [← e1, ← e2, ← e3, ← e4]; rfl, by rw [← e1]; decide, (by rw [← e1]; exact hW88)⟩
             ·have h84 := nm h84r
              refine sr fun K hK => ?_
              refine rn 2 HE HS ?_; clear HE HS; intro a w HE HS
              apply hK; clear hK K
              refine cond HE rfl (fun h91r => ?_) (fun h91r => ?_)
              ·have h91 := nm h91r
               refine sr fun K hK => ?_
               refine o_buildSl (cs := #[.int .i64 3]) [(0, _)] HE rfl HS rfl T.l44 (by kernel_rfl) ⟨rfl, trivial⟩ ?_; clear HE HS; intro B40 w a HS HE
               obtain ⟨G92, hle94, hC93, HS'⟩ := HS.stillHead (n := 1) rfl; clear HS; have HS := HS'; clear HS'
               have hW95 := Rd.ofCells (K := Knd.int .i64) (xs := [3]) hC93 ⟨rfl, rfl⟩
               refine o_build (cs := #[.slice (some ⟨B40, 0, none⟩) 1 1, .int .i64 2, .bool true, .bool true]) HE rfl rfl (by kernel_rfl) ?_; clear HE; intro a HE
               refine rn 1 HE HS ?_; clear HE HS; intro a w HE HS
               apply hK; clear hK K
               refine rt hQ HE HS ?_
               have e : sgnF m o = ([3], 2, true, true) := by
                rw [← find_sgn]
                exact sgn_hit h91 (by decide)
               have e1 : ([3] : List Int) = doms (findS m o).1.ins := congrArg (fun z => z.1) e.symm
               have e2 : 2 = (findS m o).1.out := congrArg (fun z => z.2.1) e.symm
               have e3 : true = (findS m o).1.may := congrArg (fun z => z.2.2.1) e.symm
               have e4 : true = (findS m o).2 := congrArg (fun z => z.2.2.2) e.symm
               exact ⟨(some ⟨B40, 0, none⟩), 1, by rw [← e1, ← e2, ← e3, ← e4]; rfl, by rw [← e1]; decide, (by rw [← e1]; exact hW95)⟩
              ·have h91 := nm h91r
               refine sr fun K hK => ?_
               refine rn 2 HE HS ?_; clear HE HS; intro a w HE HS
               apply hK; clear hK K
               refine cond HE rfl (fun h98r => ?_) (fun h98r => ?_)
               ·have h98 := nm h98r
                refine sr fun K hK => ?_
                refine o_buildSl (cs := #[.int .i64 3]) [(0, _)] HE rfl HS rfl T.l44 (by kernel_rfl) ⟨rfl, trivial⟩ ?_; clear HE HS; intro B44 w a HS HE
                obtain ⟨G99, hle101, hC100, HS'⟩ := HS.stillHead (n := 1) rfl; clear HS; have HS := HS'; clear HS'
                have hW102 := Rd.ofCells (K := Knd.int .i64) (xs := [3]) hC100 ⟨rfl, rfl⟩
                refine o_build (cs := #[.slice (some ⟨B44, 0, none⟩) 1 1, .int .i64 (-1), .bool false, .bool true]) HE rfl rfl (by kernel_rfl) ?_; clear HE; intro a HE
                refine rn 1 HE HS ?_; clear HE HS; intro a w HE HS
                apply hK; clear hK K
                refine rt hQ HE HS ?_
                have e : sgnF m o = ([3], (-1), false, true) := by
                 rw [← find_sgn]
                 exact sgn_hit h98 (by decide)
                have e1 : ([3] : List Int) = doms (findS m o).1.ins := congrArg (fun z => z.1) e.symm
                have e2 : (-1) = (findS m o).1.out := congrArg (fun z => z.2.1) e.symm
                have e3 : false = (findS m o).1.may := congrArg (fun z => z.2.2.1) e.symm
                have e4 : true = (findS m o).2 := congrArg (fun z => z.2.2.2) e.symm
                exact ⟨(some ⟨B44, 0, none⟩), 1, by rw [← e1, ← e2, ← e3, ← e4]; rfl, by rw [← e1]; decide, (by rw [← e1]; exact hW102)⟩
               ·have h98 := nm h98r
                refine wp_seq_k (fun K105 hK104 => ?_)
                refine sr fun K hK => ?_
                refine rn 2 HE HS ?_; clear HE HS; intro a w HE HS
                apply hK; clear hK K
                refine cond HE rfl (fun h107r => ?_) (fun h107r => ?_)
                ·have h107 := nm h107r
                 refine wp_skip ?_
                 refine hK104 _ _ ?_; clear hK104
                 refine cond HE rfl (fun h108r => ?_) (fun h108r => ?_)
                 ·have h108 := nm h108r
                  refine sr fun K hK => ?_
                  refine o_build (cs := #[.slice none 0 0, .int .i64 6, .bool false, .bool true]) HE rfl rfl (by kernel_rfl) ?_; clear HE; intro a HE
                  refine rn 1 HE HS ?_; clear HE HS; intro a w HE HS
                  apply hK; clear hK K
                  refine rt hQ HE HS ?_
                  have e : sgnF m o = ([], 6, false, true) := by
                   rw [← find_sgn]
                   exact sgn_hit h107 (by decide)
                  have e1 : ([] : List Int) = doms (findS m o).1.ins := congrArg (fun z => z.1) e.symm
                  have e2 : 6 = (findS m o).1.out := congrArg (fun z => z.2.1) e.symm
                  have e3 : false = (findS m o).1.may := congrArg (fun z => z.2.2.1) e.symm
                  have e4 : true = (findS m o).2 := congrArg (fun z => z.2.2.2) e.symm
                  exact ⟨none, 0, by rw [← e1, ← e2, ← e3, ← e4]; rfl, by rw [← e1]; decide, (by rw [← e1]; exact .nil)⟩
                 ·exact absurd (h107r.symm.trans h108r) (by decide)
                ·have h107 := nm h107r
                 refine wp_region_lit ?_
                 refine rn 2 HE HS ?_; clear HE HS; intro a w HE HS
                 refine hK104 _ _ ?_; clear hK104
                 refine cond HE rfl (fun h110r => ?_) (fun h110r => ?_)
                 ·have h110 := nm h110r
                  refine sr fun K hK => ?_
                  refine o_build (cs := #[.slice none 0 0, .int .i64 6, .bool false, .bool true]) HE rfl rfl (by kernel_rfl) ?_; clear HE; intro a HE
                  refine rn 1 HE HS ?_; clear HE HS; intro a w HE HS
                  apply hK; clear hK K
                  refine rt hQ HE HS ?_
                  have e : sgnF m o = ([], 6, false, true) := by
                   rw [← find_sgn]
                   exact sgn_hit h110 (by decide)
                  have e1 : ([] : List Int) = doms (findS m o).1.ins := congrArg (fun z => z.1) e.symm
                  have e2 : 6 = (findS m o).1.out := congrArg (fun z => z.2.1) e.symm
                  have e3 : false = (findS m o).1.may := congrArg (fun z => z.2.2.1) e.symm
                  have e4 : true = (findS m o).2 := congrArg (fun z => z.2.2.2) e.symm
                  exact ⟨none, 0, by rw [← e1, ← e2, ← e3, ← e4]; rfl, by rw [← e1]; decide, (by rw [← e1]; exact .nil)⟩
                 ·have h110 := nm h110r
                  refine sr fun K hK => ?_
                  refine rn 2 HE HS ?_; clear HE HS; intro a w HE HS
                  apply hK; clear hK K
                  refine cond HE rfl (fun h113r => ?_) (fun h113r => ?_)
                  ·have h113 := nm h113r
                   refine sr fun K hK => ?_
                   refine o_buildSl (cs := #[.int .i64 5]) [(0, _)] HE rfl HS rfl T.l44 (by kernel_rfl) ⟨rfl, trivial⟩ ?_; clear HE HS; intro B52 w a HS HE
                   obtain ⟨G114, hle116, hC115, HS'⟩ := HS.stillHead (n := 1) rfl; clear HS; have HS := HS'; clear HS'
                   have hW117 := Rd.ofCells (K := Knd.int .i64) (xs := [5]) hC115 ⟨rfl, rfl⟩
                   refine o_build (cs := #[.slice (some ⟨B52, 0, none⟩) 1 1, .int .i64 (-1), .bool false, .bool true]) HE rfl rfl (by kernel_rfl) ?_; clear HE; intro a HE
                   refine rn 1 HE HS ?_; clear HE HS; intro a w HE HS
                   apply hK; clear hK K
                   refine rt hQ HE HS ?_
                   have e : sgnF m o = ([5], (-1), false, true) := by
                    rw [← find_sgn]
                    exact sgn_hit h113 (by decide)
                   have e1 : ([5] : List Int) = doms (findS m o).1.ins := congrArg (fun z => z.1) e.symm
                   have e2 : (-1) = (findS m o).1.out := congrArg (fun z => z.2.1) e.symm
                   have e3 : false = (findS m o).1.may := congrArg (fun z => z.2.2.1) e.symm
                   have e4 : true = (findS m o).2 := congrArg (fun z => z.2.2.2) e.symm
                   exact ⟨(some ⟨B52, 0, none⟩), 1, by rw [← e1, ← e2, ← e3, ← e4]; rfl, by rw [← e1]; decide, (by rw [← e1]; exact hW117)⟩
                  ·have h113 := nm h113r
                   refine sr fun K hK => ?_
                   refine rn 2 HE HS ?_; clear HE HS; intro a w HE HS
                   apply hK; clear hK K
                   refine cond HE rfl (fun h120r => ?_) (fun h120r => ?_)
                   ·have h120 := nm h120r
                    refine sr fun K hK => ?_
                    refine o_build (cs := #[.slice none 0 0, .int .i64 5, .bool false, .bool true]) HE rfl rfl (by kernel_rfl) ?_; clear HE; intro a HE
                    refine rn 1 HE HS ?_; clear HE HS; intro a w HE HS
                    apply hK; clear hK K
                    refine rt hQ HE HS ?_
                    have e : sgnF m o = ([], 5, false, true) := by
                     rw [← find_sgn]
                     exact sgn_hit h120 (by decide)
                    have e1 : ([] : List Int) = doms (findS m o).1.ins := congrArg (fun z => z.1) e.symm
                    have e2 : 5 = (findS m o).1.out := congrArg (fun z => z.2.1) e.symm
                    have e3 : false = (findS m o).1.may := congrArg (fun z => z.2.2.1) e.symm
                    have e4 : true = (findS m o).2 := congrArg (fun z => z.2.2.2) e.symm
                    exact ⟨none, 0, by rw [← e1, ← e2, ← e3, ← e4]; rfl, by rw [← e1]; decide, (by rw [← e1]; exact .nil)⟩
                   ·have h120 := nm h120r
                    refine wp_seq_k (fun K123 hK122 => ?_)
                    refine sr fun K hK => ?_
                    refine rn 2 HE HS ?_; clear HE HS; intro a w HE HS
                    apply hK; clear hK K
                    refine cond HE rfl (fun h125r => ?_) (fun h125r => ?_)
                    ·have h125 := nm h125r
                     refine wp_skip ?_
                     refine hK122 _ _ ?_; clear hK122
                     refine cond HE rfl (fun h126r => ?_) (fun h126r => ?_)
                     ·have h126 := nm h126r
                      refine sr fun K hK => ?_
                      refine o_buildSl (cs := #[.int .i64 4]) [(0, _)] HE rfl HS rfl T.l44 (by kernel_rfl) ⟨rfl, trivial⟩ ?_; clear HE HS; intro B60 w a HS HE
                      obtain ⟨G127, hle129, hC128, HS'⟩ := HS.stillHead (n := 1) rfl; clear HS; have HS := HS'; clear HS'
                      have hW130 := Rd.ofCells (K := Knd.int .i64) (xs := [4]) hC128 ⟨rfl, rfl⟩
                      refine o_build (cs := #[.slice (some ⟨B60, 0, none⟩) 1 1, .int .i64 (-1), .bool false, .bool true]) HE rfl rfl (by kernel_rfl) ?_; clear HE; intro a HE
                      refine rn 1 HE HS ?_; clear HE HS; intro a w HE HS
                      apply hK; clear hK K
                      refine rt hQ HE HS ?_
                      have e : sgnF m o = ([4], (-1), false, true) := by
                       rw [← find_sgn]
                       exact sgn_hit h125 (by decide)
                      have e1 : ([4] : List Int) = doms (findS m o).1.ins := congrArg (fun z => z.1) e.symm
                      have e2 : (-1) = (findS m o).1.out := congrArg (fun z => z.2.1) e.symm
                      have e3 : false = (findS m o).1.may := congrArg (fun z => z.2.2.1) e.symm
                      have e4 : true = (findS m o).2 := congrArg (fun z => z.2.2.2) e.symm
                      exact ⟨(some ⟨B60, 0, none⟩), 1, by rw [← e1, ← e2, ← e3, ← e4]; rfl, by rw [← e1]; decide, (by rw [← e1]; exact hW130)⟩
                     ·exact absurd (h125r.symm.trans h126r) (by decide)
                    ·have h125 := nm h125r
                     refine wp_region_lit ?_
                     refine rn 2 HE HS ?_; clear HE HS; intro a w HE HS
                     refine hK122 _ _ ?_; clear hK122
                     refine cond HE rfl (fun h132r => ?_) (fun h132r => ?_)
                     ·have h132 := nm h132r
                      refine sr fun K hK => ?_
                      refine o_buildSl (cs := #[.int .i64 4]) [(0, _)] HE rfl HS rfl T.l44 (by kernel_rfl) ⟨rfl, trivial⟩ ?_; clear HE HS; intro B60 w a HS HE
                      obtain ⟨G133, hle135, hC134, HS'⟩ := HS.stillHead (n := 1) rfl; clear HS; have HS := HS'; clear HS'
                      have hW136 := Rd.ofCells (K := Knd.int .i64) (xs := [4]) hC134 ⟨rfl, rfl⟩
                      refine o_build (cs := #[.slice (some ⟨B60, 0, none⟩) 1 1, .int .i64 (-1), .bool false, .bool true]) HE rfl rfl (by kernel_rfl) ?_; clear HE; intro a HE
                      refine rn 1 HE HS ?_; clear HE HS; intro a w HE HS
                      apply hK; clear hK K
                      refine rt hQ HE HS ?_
                      have e : sgnF m o = ([4], (-1), false, true) := by
                       rw [← find_sgn]
                       exact sgn_hit h132 (by decide)
                      have e1 : ([4] : List Int) = doms (findS m o).1.ins := congrArg (fun z => z.1) e.symm
                      have e2 : (-1) = (findS m o).1.out := congrArg (fun z => z.2.1) e.symm
                      have e3 : false = (findS m o).1.may := congrArg (fun z => z.2.2.1) e.symm
                      have e4 : true = (findS m o).2 := congrArg (fun z => z.2.2.2) e.symm
                      exact ⟨(some ⟨B60, 0, none⟩), 1, by rw [← e1, ← e2, ← e3, ← e4]; rfl, by rw [← e1]; decide, (by rw [← e1]; exact hW136)⟩
                     ·have h132 := nm h132r
                      refine sr fun K hK => ?_
                      refine rn 2 HE HS ?_; clear HE HS; intro a w HE HS
                      apply hK; clear hK K
                      refine cond HE rfl (fun h139r => ?_) (fun h139r => ?_)
                      ·have h139 := nm h139r
                       refine sr fun K hK => ?_
                       refine o_build (cs := #[.slice none 0 0, .int .i64 4, .bool true, .bool true]) HE rfl rfl (by kernel_rfl) ?_; clear HE; intro a HE
                       refine rn 1 HE HS ?_; clear HE HS; intro a w HE HS
                       apply hK; clear hK K
                       refine rt hQ HE HS ?_
                       have e : sgnF m o = ([], 4, true, true) := by
                        rw [← find_sgn]
                        exact sgn_hit h139 (by decide)
                       have e1 : ([] : List Int) = doms (findS m o).1.ins := congrArg (fun z => z.1) e.symm
                       have e2 : 4 = (findS m o).1.out := congrArg (fun z => z.2.1) e.symm
                       have e3 : true = (findS m o).1.may := congrArg (fun z => z.2.2.1) e.symm
                       have e4 : true = (findS m o).2 := congrArg (fun z => z.2.2.2) e.symm
                       exact ⟨none, 0, by rw [← e1, ← e2, ← e3, ← e4]; rfl, by rw [← e1]; decide, (by rw [← e1]; exact .nil)⟩
                      ·have h139 := nm h139r
                       refine sr fun K hK => ?_
                       refine rn 2 HE HS ?_; clear HE HS; intro a w HE HS
                       apply hK; clear hK K
                       refine cond HE rfl (fun h142r => ?_) (fun h142r => ?_)
                       ·have h142 := nm h142r
                        refine sr fun K hK => ?_
                        refine o_buildSl (cs := #[.int .i64 4, .int .i64 2]) [(0, _), (1, _)] HE rfl HS rfl T.l44 (by kernel_rfl) ⟨rfl, rfl, trivial⟩ ?_; clear HE HS; intro B67 w a HS HE
                        obtain ⟨G143, hle145, hC144, HS'⟩ := HS.stillHead (n := 2) rfl; clear HS; have HS := HS'; clear HS'
                        have hW146 := Rd.ofCells (K := Knd.int .i64) (xs := [4, 2]) hC144 ⟨rfl, rfl, rfl⟩
                        refine o_build (cs := #[.slice (some ⟨B67, 0, none⟩) 2 2, .int .i64 (-1), .bool false, .bool true]) HE rfl rfl (by kernel_rfl) ?_; clear HE; intro a HE
                        refine rn 1 HE HS ?_; clear HE HS; intro a w HE HS
                        apply hK; clear hK K
                        refine rt hQ HE HS ?_
                        have e : sgnF m o = ([4, 2], (-1), false, true) := by
                         rw [← find_sgn]
                         exact sgn_hit h142 (by decide)
                        have e1 : ([4, 2] : List Int) = doms (findS m o).1.ins := congrArg (fun z => z.1) e.symm
                        have e2 : (-1) = (findS m o).1.out := congrArg (fun z => z.2.1) e.symm
                        have e3 : false = (findS m o).1.may := congrArg (fun z => z.2.2.1) e.symm
                        have e4 : true = (findS m o).2 := congrArg (fun z => z.2.2.2) e.symm
                        exact ⟨(some ⟨B67, 0, none⟩), 2, by rw [← e1, ← e2, ← e3, ← e4]; rfl, by rw [← e1]; decide, (by rw [← e1]; exact hW146)⟩
                       ·have h142 := nm h142r
                        refine sr fun K hK => ?_
                        refine rn 2 HE HS ?_; clear HE HS; intro a w HE HS
                        apply hK; clear hK K
                        refine cond HE rfl (fun h149r => ?_) (fun h149r => ?_)
                        ·have h149 := nm h149r
                         refine sr fun K hK => ?_
                         refine o_buildSl (cs := #[.int .i64 4, .int .i64 4]) [(0, _), (1, _)] HE rfl HS rfl T.l44 (by kernel_rfl) ⟨rfl, rfl, trivial⟩ ?_; clear HE HS; intro B71 w a HS HE
                         obtain ⟨G150, hle152, hC151, HS'⟩ := HS.stillHead (n := 2) rfl; clear HS; have HS := HS'; clear HS'
                         have hW153 := Rd.ofCells (K := Knd.int .i64) (xs := [4, 4]) hC151 ⟨rfl, rfl, rfl⟩
                         refine o_build (cs := #[.slice (some ⟨B71, 0, none⟩) 2 2, .int .i64 99, .bool false, .bool true]) HE rfl rfl (by kernel_rfl) ?_; clear HE; intro a HE
                         refine rn 1 HE HS ?_; clear HE HS; intro a w HE HS
                         apply hK; clear hK K
                         refine rt hQ HE HS ?_
                         have e : sgnF m o = ([4, 4], 99, false, true) := by
                          rw [← find_sgn]
                          exact sgn_hit h149 (by decide)
                         have e1 : ([4, 4] : List Int) = doms (findS m o).1.ins := congrArg (fun z => z.1) e.symm
                         have e2 : 99 = (findS m o).1.out := congrArg (fun z => z.2.1) e.symm
                         have e3 : false = (findS m o).1.may := congrArg (fun z => z.2.2.1) e.symm
                         have e4 : true = (findS m o).2 := congrArg (fun z => z.2.2.2) e.symm
                         exact ⟨(some ⟨B71, 0, none⟩), 2, by rw [← e1, ← e2, ← e3, ← e4]; rfl, by rw [← e1]; decide, (by rw [← e1]; exact hW153)⟩
                        ·have h149 := nm h149r
                         refine wp_skip ?_
                         refine hK2 _ _ ?_; clear hK2
                         refine sr fun K hK => ?_
                         refine o_build (cs := #[.slice none 0 0, .int .i64 0, .bool false, .bool false]) HE rfl rfl (by kernel_rfl) ?_; clear HE; intro a HE
                         refine rn 1 HE HS ?_; clear HE HS; intro a w HE HS
                         apply hK; clear hK K
                         refine rt hQ HE HS ?_
                         have e : sgnF m o = ([], 0, false, false) := by
                          rw [← find_sgn]
                          simp only [sgnT, sgnTab, List.find?, BEq.comm (a := (_ : Bs)), beq_false_of_ne (Ne.symm h8), beq_false_of_ne (Ne.symm h16), beq_false_of_ne (Ne.symm h24), beq_false_of_ne (Ne.symm h32), beq_false_of_ne (Ne.symm h40), beq_false_of_ne (Ne.symm h47), beq_false_of_ne (Ne.symm h56), beq_false_of_ne (Ne.symm h60), beq_false_of_ne (Ne.symm h64), beq_false_of_ne (Ne.symm h67), beq_false_of_ne (Ne.symm h70), beq_false_of_ne (Ne.symm h77), beq_false_of_ne (Ne.symm h84), beq_false_of_ne (Ne.symm h91), beq_false_of_ne (Ne.symm h98), beq_false_of_ne (Ne.symm h107), beq_false_of_ne (Ne.symm h110), beq_false_of_ne (Ne.symm h113), beq_false_of_ne (Ne.symm h120), beq_false_of_ne (Ne.symm h125), beq_false_of_ne (Ne.symm h132), beq_false_of_ne (Ne.symm h139), beq_false_of_ne (Ne.symm h142), beq_false_of_ne (Ne.symm h149)]
                         have e1 : ([] : List Int) = doms (findS m o).1.ins := congrArg (fun z => z.1) e.symm
                         have e2 : 0 = (findS m o).1.out := congrArg (fun z => z.2.1) e.symm
                         have e3 : false = (findS m o).1.may := congrArg (fun z => z.2.2.1) e.symm
                         have e4 : false = (findS m o).2 := congrArg (fun z => z.2.2.2) e.symm
                         exact ⟨none, 0, by rw [← e1, ← e2, ← e3, ← e4]; rfl, by rw [← e1]; decide, (by rw [← e1]; exact .nil)⟩
end Go.Proofs.YtiinipcmghhacaaGreatDoor.T10
