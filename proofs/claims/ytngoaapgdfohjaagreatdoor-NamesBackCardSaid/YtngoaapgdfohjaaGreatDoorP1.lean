/- Own text. -/
import Derived.Test.YtngoaapgdfohjaaGreatDoorX40
import Derived.Test.YtngoaapgdfohjaaGreatDoorN1
import Derived.Test.YtngoaapgdfohjaaGreatDoorN2
import Derived.Test.YtngoaapgdfohjaaGreatDoorN4
import Derived.Test.YtngoaapgdfohjaaGreatDoorN6
import Derived.Test.YtngoaapgdfohjaaGreatDoorN7
import Derived.Test.YtngoaapgdfohjaaGreatDoorN8
import Derived.Laws.BitsLemmas
set_option linter.unusedVariables false
set_option linter.unusedSimpArgs false
namespace Go.Proofs.YtngoaapgdfohjaaGreatDoor.T28
open Go Go.Proofs.YtngoaapgdfohjaaGreatDoor.X

def ruledB (d : Int) (r : Rul) : Bool := (decide (r.way = 2) && (decide (1 ≤ r.size) && decide (r.size ≤ 16))) || ((decide (r.way = 0) || decide (r.way = 1)) && decide (r.size = 0)) || (decide (r.way = 3) && (decide (d = 4) && decide (r.size = 0)))
def rightB (p : Pol) : Bool :=
  ruledB 0 p.r0 && (ruledB 1 p.r1 && (ruledB 2 p.r2 && (ruledB 3 p.r3 && (ruledB 4 p.r4 && ((decide (p.time = 0) || decide (p.time = 3)) && (decide (p.note = 0) || decide (p.note = 4)))))))
def isM (m : Int) (e : Evt) : Bool := decide (e.type = 1) && decide (e.model = m)
def hasM (h : List Evt) (m : Int) : Bool := h.any (isM m)
theorem hasM_take {h : List Evt} {m : Int} {i : Nat} (hi : i < h.length) : hasM (h.take (i + 1)) m = (hasM (h.take i) m || isM m h[i]) := by
  unfold hasM
  rw [List.take_add_one, List.any_append, List.getElem?_eq_getElem hi]
  simp
theorem hasM_of {h : List Evt} {m : Int} {i : Nat} (hi : i < h.length) (he : isM m h[i] = true) : hasM h m = true := by
  unfold hasM
  rw [List.any_eq_true]
  exact ⟨h[i], List.getElem_mem hi, he⟩
def metL (h : List Evt) : List Value := (List.range 11).map fun (j : Nat) => .bool (decide (1 ≤ j) && hasM h (j : Int))
theorem metL_len (h : List Evt) : (metL h).length = 11 := by simp [metL]
theorem metL_snoc {h : List Evt} {i : Nat} {x : Evt} (hi : i < h.length) (hx : h[i] = x) (hc : (x.type = 1 ∧ 1 ≤ x.model) ∧ x.model < 11) : (metL (h.take i)).set x.model.toNat (.bool true) = metL (h.take (i + 1)) := by
  subst hx
  obtain ⟨⟨h1, h2⟩, h3⟩ := hc
  apply List.ext_getElem
  · simp [metL]
  · intro j hj1 hj2
    simp only [metL, List.length_set, List.length_map, List.length_range] at hj1
    rw [List.getElem_set]
    simp only [metL, List.getElem_map, List.getElem_range]
    rw [hasM_take hi]
    split
    · rename_i e
      subst e
      have h0 : isM (h[i].model.toNat : Int) h[i] = true := by simp only [isM, h1, decide_true, Bool.true_and, decide_eq_true_eq]; omega
      have h4 : decide (1 ≤ h[i].model.toNat) = true := by simp only [decide_eq_true_eq]; omega
      rw [h0, h4, Bool.or_true]; rfl
    · rename_i e
      have h0 : isM (j : Int) h[i] = false := by simp only [isM, h1, decide_true, Bool.true_and, decide_eq_false_iff_not]; omega
      rw [h0, Bool.or_false]
theorem metL_skip {h : List Evt} {i : Nat} {x : Evt} (hi : i < h.length) (hx : h[i] = x) (hn : (¬ x.type = 1 ∨ ¬ 1 ≤ x.model) ∨ ¬ x.model < 11) : metL (h.take i) = metL (h.take (i + 1)) := by
  subst hx
  apply List.ext_getElem
  · simp [metL]
  · intro j hj1 hj2
    simp only [metL, List.length_map, List.length_range] at hj1
    simp only [metL, List.getElem_map, List.getElem_range]
    rw [hasM_take hi]
    by_cases hj : 1 ≤ j
    · have h0 : isM (j : Int) h[i] = false := by
        simp only [isM, Bool.and_eq_false_iff, decide_eq_false_iff_not]
        by_cases h1 : h[i].type = 1
        · right; omega
        · exact .inl h1
      rw [h0, Bool.or_false]
    · have : decide (1 ≤ j) = false := by simp [hj]
      rw [this]; rfl
theorem metL_one {h : List Evt} : ∀ v ∈ metL h, one v = true := by
  intro v hv
  simp only [metL, List.mem_map] at hv
  obtain ⟨j, _, rfl⟩ := hv
  rfl
theorem metL_9 {h : List Evt} : (metL h)[9]? = some (.bool (hasM h 9)) := by simp [metL]
theorem metL_10 {h : List Evt} : (metL h)[10]? = some (.bool (hasM h 10)) := by simp [metL]
theorem kEvt_mk {G : Heap} (x : Evt) {A1 c1 A2 c2} (h1 : x.args.length ≤ c1) (h2 : Rd kVal G A1 x.args) (h3 : x.out.length ≤ c2) (h4 : Rd kVal G A2 x.out) : kEvt.R G x (evtCells x A1 c1 A2 c2) := ⟨A1, c1, A2, c2, rfl, h1, h2, h3, h4⟩
theorem metL_at {h : List Evt} {j : Nat} (hj : j < 11) : (metL h)[j]? = some (.bool (decide (1 ≤ j) && hasM h (j : Int))) := by simp [metL, hj]
def modelsUp (h : List Evt) (i : Nat) : List Int := ((List.range i).filter fun (j : Nat) => decide (1 ≤ j) && hasM h (j : Int)).map fun (j : Nat) => (j : Int)
theorem modelsUp_in {h : List Evt} {i : Nat} (hc : (decide (1 ≤ i) && hasM h (i : Int)) = true) : modelsUp h i ++ [(i : Int)] = modelsUp h (i + 1) := by
  simp only [modelsUp, List.range_succ, List.filter_append, List.map_append]
  simp [List.filter_cons, hc]
theorem modelsUp_out {h : List Evt} {i : Nat} (hc : (decide (1 ≤ i) && hasM h (i : Int)) = false) : modelsUp h i = modelsUp h (i + 1) := by
  simp only [modelsUp, List.range_succ, List.filter_append, List.map_append]
  rw [List.filter_cons, if_neg (by rw [hc]; decide)]
  simp
theorem modelsUp_step {h : List Evt} {i : Nat} : (bif decide (1 ≤ i) && hasM h (i : Int) then modelsUp h i ++ [(i : Int)] else modelsUp h i) = modelsUp h (i + 1) := by
  cases hc : (decide (1 ≤ i) && hasM h (i : Int)) with
  | true => exact modelsUp_in hc
  | false => exact modelsUp_out hc
theorem modelsUp_step1 {h : List Evt} {i : Nat} (h1 : 1 ≤ i) : (bif hasM h (i : Int) then modelsUp h i ++ [(i : Int)] else modelsUp h i) = modelsUp h (i + 1) := by
  rw [← modelsUp_step (i := i), decide_eq_true h1, Bool.true_and]
theorem modelsUp_len (h : List Evt) (i : Nat) : (modelsUp h i).length ≤ i := by
  simp only [modelsUp, List.length_map]
  have := List.length_filter_le (fun (j : Nat) => decide (1 ≤ j) && hasM h (j : Int)) (List.range i)
  simpa using this
theorem take_snoc_eq {α : Type} {a b : List α} {i : Nat} (h : a.take i = b.take i) (ha : i < a.length) (hb : i < b.length) (e : a[i] = b[i]) : a.take (i + 1) = b.take (i + 1) := by
  rw [List.take_add_one, List.take_add_one, h, List.getElem?_eq_getElem ha, List.getElem?_eq_getElem hb, e]
theorem hasM_append (a b : List Evt) (m : Int) : hasM (a ++ b) m = (hasM a m || hasM b m) := List.any_append
def sortedB (h : List Evt) : Bool := hasM h 9 || hasM h 10
def admitsB (p : Pol) (h : List Evt) : Bool := rightB p && !((decide (p.r4.way = 1) || decide (p.r4.way = 2)) && sortedB h)

def sizeS (s : Bs) (most : Int) : Except Int Int := if digitsB s = true then (if (dv s : Int) ≤ most then .ok (dv s) else .error 3) else .error 2
def countS (s : Bs) (most : Int) : Except Int Int := match sizeS s 9223372036854775807 with
  | .error e => .error e
  | .ok n => if most < 0 ∨ most < n then .error 3 else .ok n
def parseS (s : Bs) : Except Int Int :=
  if s = [] ∨ bt s 0 ≠ 45 then sizeS s 9223372036854775807
  else match sizeS (s.drop 1) 9223372036854775808 with
    | .error e => .error e
    | .ok n => if n = 0 then .error 2 else .ok (-n)
theorem dig_of {s : Bs} {i : Nat} (hi : i < s.length) (h1 : 48 ≤ bt s i) (h2 : bt s i ≤ 57) : digB s[i] = true := by
  rw [bt_nat hi] at h1 h2
  simp only [digB, Bool.and_eq_true, decide_eq_true_eq]
  omega
theorem dig_at {s : Bs} (h : s.all digB = true) {i : Nat} (hi : i < s.length) : 48 ≤ bt s i ∧ bt s i ≤ 57 := by
  have := List.all_eq_true.1 h _ (List.getElem_mem hi)
  simp only [digB, Bool.and_eq_true, decide_eq_true_eq] at this
  rw [bt_nat hi]
  omega
theorem digits_all {s : Bs} (h : digitsB s = true) : s.all digB = true := by simp only [digitsB, Bool.and_eq_true] at h; exact h.1
theorem digits_pos {s : Bs} (h : digitsB s = true) : 0 < s.length := by simp only [digitsB, Bool.and_eq_true, decide_eq_true_eq] at h; exact h.2.1
theorem digits_no {s : Bs} {i : Nat} (hi : i < s.length) (h : bt s i < 48 ∨ 57 < bt s i) : digitsB s = false := by
  cases hd : digitsB s with
  | false => rfl
  | true => have := dig_at (digits_all hd) hi; omega
theorem digits_eq {s : Bs} (h : s.all digB = true) : (decide (0 < (s.length : Int)) && (decide ((s.length : Int) = 1) || !decide (bt s 0 = 48))) = digitsB s := by
  unfold digitsB
  rw [h, Bool.true_and]
  have e1 : decide (0 < (s.length : Int)) = decide (0 < s.length) := decide_eq_decide.2 (by omega)
  have e2 : decide ((s.length : Int) = 1) = decide (s.length = 1) := decide_eq_decide.2 (by omega)
  rw [e1, e2]
theorem digits_of {s : Bs} (h : s.all digB = true) (h1 : ¬ s = []) (h2 : ¬ bt s 0 = 48 ∨ ¬ 1 < (s.length : Int)) : digitsB s = true := by
  rw [← digits_eq h]
  have h0 : 0 < s.length := List.length_pos_iff.2 h1
  simp only [Bool.and_eq_true, Bool.or_eq_true, decide_eq_true_eq, Bool.not_eq_true', decide_eq_false_iff_not]
  refine ⟨by omega, ?_⟩
  rcases h2 with h2 | h2
  · exact .inr h2
  · exact .inl (by omega)
theorem size_no {s : Bs} {most : Int} (h : digitsB s = false) : sizeS s most = .error 2 := by simp [sizeS, h]
theorem size_e2a {s : Bs} {most : Int} (h : s = [] ∨ bt s 0 = 48 ∧ 1 < (s.length : Int)) : sizeS s most = .error 2 := by
  refine size_no ?_
  cases hd : digitsB s with
  | false => rfl
  | true =>
    have h0 := digits_pos hd
    have h1 := digits_all hd
    rw [← digits_eq h1] at hd
    simp only [Bool.and_eq_true, Bool.or_eq_true, decide_eq_true_eq, Bool.not_eq_true', decide_eq_false_iff_not] at hd
    rcases h with rfl | h
    · simp at h0
    · omega
theorem size_e2b {s : Bs} {most : Int} {i : Nat} (hi : i < s.length) (h : bt s i < 48 ∨ 57 < bt s i) : sizeS s most = .error 2 := size_no (digits_no hi h)
theorem dv_step {s : Bs} (h : s.all digB = true) {j : Nat} (hj : j < s.length) : ((dv (s.take (j + 1)) : Nat) : Int) = (dv (s.take j) : Int) * 10 + (bt s j - 48) := by
  have := dig_at h hj
  rw [bt_nat hj] at this ⊢
  rw [dv_take hj]
  omega
theorem size_e3 {s : Bs} {most : Int} (hd : digitsB s = true) {j : Nat} (hj : j < s.length) (h : most < (dv (s.take j) : Int) * 10 + (bt s j - 48)) : sizeS s most = .error 3 := by
  rw [← dv_step (digits_all hd) hj] at h
  have := dv_mono s (j + 1)
  unfold sizeS
  rw [if_pos hd, if_neg (by omega)]
theorem size_ok {s : Bs} {most : Int} (hd : digitsB s = true) (h : (dv s : Int) ≤ most) : sizeS s most = .ok (dv s : Int) := by
  unfold sizeS
  rw [if_pos hd, if_pos h]
theorem size_bound {s : Bs} {most n : Int} (h : sizeS s most = .ok n) : 0 ≤ n ∧ n ≤ most := by
  unfold sizeS at h
  split at h
  · split at h
    · cases h; omega
    · cases h
  · cases h
def maxP : Bs := [57, 50, 50, 51, 51, 55, 50, 48, 51, 54, 56, 53, 52, 55, 55, 53, 56, 48, 55]
def maxN : Bs := [57, 50, 50, 51, 51, 55, 50, 48, 51, 54, 56, 53, 52, 55, 55, 53, 56, 48, 56]
theorem least_p {s : Bs} (h : digitsB s = true) : leastB s maxP = decide ((dv s : Int) ≤ 9223372036854775807) := by
  rw [least_iff h (by decide), show dv maxP = 9223372036854775807 by decide]
  exact decide_eq_decide.2 (by omega)
theorem least_n {s : Bs} (h : digitsB s = true) : leastB s maxN = decide ((dv s : Int) ≤ 9223372036854775808) := by
  rw [least_iff h (by decide), show dv maxN = 9223372036854775808 by decide]
  exact decide_eq_decide.2 (by omega)
theorem dv_zero {s : Bs} (hd : digitsB s = true) (hn : ¬ s = [48]) : ¬ (dv s : Int) = 0 := by
  intro e
  have h1 := digits_all hd
  have h0 := digits_pos hd
  rcases Nat.lt_or_ge 1 s.length with h | h
  · have := dv_ge hd h
    have := Nat.pow_pos (a := 10) (n := s.length - 1) (by decide)
    omega
  · match s, h0, h with
    | [b], _, _ =>
      have h2 := dig_at h1 (i := 0) (by simp)
      have h3 : bt [b] ((0 : Nat) : Int) = (b.toNat : Int) := rfl
      rw [h3] at h2
      have h4 : dv [b] = 0 * 10 + (b.toNat - 48) := rfl
      have h5 : b.toNat = 48 := by omega
      exact hn (by rw [show b = 48 from UInt8.toNat_inj.1 h5])
theorem size_big {s : Bs} {most : Int} (hd : digitsB s = true) (h : ¬ (dv s : Int) ≤ most) : sizeS s most = .error 3 := by
  unfold sizeS
  rw [if_pos hd, if_neg h]
theorem parse_neg {s : Bs} (h0 : 0 < (s.length : Int) ∧ bt s 0 = 45) : parseS s = match sizeS (s.drop 1) 9223372036854775808 with
    | .error e => .error e
    | .ok n => if n = 0 then .error 2 else .ok (-n) := by
  unfold parseS
  rw [if_neg]
  rintro (h | h)
  · subst h; simp at h0
  · exact h h0.2
theorem parse_pos {s : Bs} (h0 : ¬ 0 < (s.length : Int) ∨ ¬ bt s 0 = 45) : parseS s = sizeS s 9223372036854775807 := by
  unfold parseS
  rw [if_pos]
  rcases h0 with h | h
  · left; exact List.eq_nil_of_length_eq_zero (by omega)
  · exact .inr h
theorem parse_n2 {s : Bs} (h0 : 0 < (s.length : Int) ∧ bt s 0 = 45) (h : digitsB (s.drop 1) = false ∨ s.drop 1 = [48]) : parseS s = .error 2 := by
  rw [parse_neg h0]
  rcases h with h | h
  · rw [size_no h]
  · rw [h]; rfl
theorem parse_n3 {s : Bs} (h0 : 0 < (s.length : Int) ∧ bt s 0 = 45) (hd : digitsB (s.drop 1) = true) (hl : leastB (s.drop 1) maxN = false) : parseS s = .error 3 := by
  rw [parse_neg h0]
  rw [least_n hd, decide_eq_false_iff_not] at hl
  rw [size_big hd hl]
theorem parse_nok {s : Bs} (h0 : 0 < (s.length : Int) ∧ bt s 0 = 45) (hd : digitsB (s.drop 1) = true) (hn : ¬ s.drop 1 = [48]) (hb : (dv (s.drop 1) : Int) ≤ 9223372036854775808) : parseS s = .ok (-(dv (s.drop 1) : Int)) := by
  rw [parse_neg h0, size_ok hd hb]
  exact if_neg (dv_zero hd hn)
theorem parse_p3 {s : Bs} (h0 : ¬ 0 < (s.length : Int) ∨ ¬ bt s 0 = 45) (hd : digitsB s = true) (hl : leastB s maxP = false) : parseS s = .error 3 := by
  rw [least_p hd, decide_eq_false_iff_not] at hl
  rw [parse_pos h0, size_big hd hl]
theorem count_digits {s : Bs} {most : Int} (hd : digitsB s = true) : countS s most = if ¬ erv (parseS s) = 0 ∨ most < okv (parseS s) then .error 3 else .ok (okv (parseS s)) := by
  have h1 := dig_at (digits_all hd) (i := 0) (digits_pos hd)
  have e : parseS s = sizeS s 9223372036854775807 := parse_pos (.inr (by
    have : bt s ((0 : Nat) : Int) = bt s 0 := rfl
    omega))
  unfold countS
  rw [e]
  by_cases hb : (dv s : Int) ≤ 9223372036854775807
  · rw [size_ok hd hb]
    show (if most < 0 ∨ most < (dv s : Int) then Except.error 3 else Except.ok (dv s : Int)) = if ¬ (0 : Int) = 0 ∨ most < (dv s : Int) then Except.error 3 else Except.ok (dv s : Int)
    by_cases h : most < (dv s : Int)
    · rw [if_pos (.inr h), if_pos (.inr h)]
    · rw [if_neg (by omega), if_neg (by omega)]
  · rw [size_big hd hb]
    show Except.error 3 = if ¬ (3 : Int) = 0 ∨ most < 0 then Except.error 3 else Except.ok 0
    rw [if_pos (.inl (by decide))]
theorem drop_len {s : Bs} (h : 0 < (s.length : Int)) : (s.drop 1).length + 1 = s.length := by simp; omega

def lowB (c : Int) : Bool := decide (97 ≤ c) && decide (c ≤ 122)
def letterB (c : Int) (first : Bool) : Bool := lowB c || (!first && (decide (c = 95) || (decide (48 ≤ c) && decide (c ≤ 57))))
theorem letter_eq (c : Int) : (((decide (97 ≤ c) && decide (c ≤ 122)) || (decide (48 ≤ c) && decide (c ≤ 57))) || decide (c = 95)) = letterB c false := by
  unfold letterB lowB
  cases decide (97 ≤ c) <;> cases decide (c ≤ 122) <;> cases decide (48 ≤ c) <;> cases decide (c ≤ 57) <;> cases decide (c = 95) <;> rfl
def isWordB (s : Bs) : Bool := (decide (1 ≤ s.length) && decide (s.length ≤ 40)) && (lowB (bt s 0) && s.all fun c => letterB (c.toNat : Int) false)
theorem all_snoc {α : Type} {p : α → Bool} {s : List α} {i : Nat} (h : i < s.length) : (s.take (i + 1)).all p = ((s.take i).all p && p s[i]) := by
  rw [List.take_add_one, List.getElem?_eq_getElem h, List.all_append]
  simp
theorem all_not {α : Type} {p : α → Bool} {s : List α} {i : Nat} (h : i < s.length) (hp : p s[i] = false) : s.all p = false := by
  cases ha : s.all p with
  | false => rfl
  | true => rw [List.all_eq_true.1 ha _ (List.getElem_mem h)] at hp; cases hp
def wordC (c : UInt8) : Bool := letterB (c.toNat : Int) false
theorem word_def (s : Bs) : isWordB s = ((decide (1 ≤ s.length) && decide (s.length ≤ 40)) && (lowB (bt s 0) && s.all wordC)) := rfl
theorem word_ref_no {s : Bs} {i : Nat} (hi : i < s.length) (h : letterB (bt s (i : Int)) (decide ((i : Int) = 0)) = false) : isWordB s = false := by
  by_cases h0 : i = 0
  · subst h0
    have e : bt s ((0 : Nat) : Int) = bt s 0 := rfl
    rw [e] at h
    have hl : lowB (bt s 0) = false := by
      simp only [letterB, Bool.or_eq_false_iff] at h
      exact h.1
    rw [word_def, hl]; simp
  · have e : decide ((i : Int) = 0) = false := by simp; omega
    rw [e] at h
    rw [word_def, all_not hi (by unfold wordC; rw [← bt_nat hi]; exact h)]; simp
theorem word_ref {s : Bs} (ha : ∀ j, j < s.length → letterB (bt s (j : Int)) (decide ((j : Int) = 0)) = true) : (decide (1 ≤ (s.length : Int)) && decide ((s.length : Int) ≤ 40)) = isWordB s := by
  rw [word_def, show decide (1 ≤ (s.length : Int)) = decide (1 ≤ s.length) from decide_eq_decide.2 (by omega), show decide ((s.length : Int) ≤ 40) = decide (s.length ≤ 40) from decide_eq_decide.2 (by omega)]
  by_cases h0 : 1 ≤ s.length
  · have h1 : lowB (bt s 0) = true := by
      have := ha 0 (by omega)
      have e : bt s ((0 : Nat) : Int) = bt s 0 := rfl
      rw [e] at this
      simpa [letterB] using this
    have h2 : s.all wordC = true := by
      rw [List.all_eq_true]
      intro x hx
      obtain ⟨j, hj, rfl⟩ := List.mem_iff_getElem.1 hx
      have h3 := ha j hj
      rw [bt_nat hj] at h3
      unfold wordC
      by_cases e : j = 0
      · subst e
        simp only [letterB] at h3 ⊢
        simp at h3 ⊢
        exact .inl h3
      · have e2 : decide ((j : Int) = 0) = false := by simp; omega
        rw [e2] at h3
        exact h3
    rw [h1, h2]; simp
  · rw [decide_eq_false h0]; simp
def parseV (s : Bs) : Val × Int :=
  if s = [126] then (⟨0, 0, []⟩, 0) else if s = [84] then (⟨3, 1, []⟩, 0) else if s = [70] then (⟨3, 0, []⟩, 0)
  else if isWordB s = true then (⟨2, 0, s⟩, 0) else if ¬ erv (parseS s) = 0 then (⟨0, 0, []⟩, erv (parseS s)) else (⟨1, okv (parseS s), []⟩, 0)
theorem wordC_bt {s : Bs} {i : Nat} (h : i < s.length) : wordC s[i] = letterB (bt s i) false := by unfold wordC; rw [bt_nat h]
theorem word_len {s : Bs} (h : s = [] ∨ 40 < (s.length : Int)) : isWordB s = false := by
  rw [word_def]
  have : (decide (1 ≤ s.length) && decide (s.length ≤ 40)) = false := by
    simp only [Bool.and_eq_false_iff, decide_eq_false_iff_not]
    rcases h with rfl | h
    · left; simp
    · right; omega
  rw [this]; rfl
theorem word_first {s : Bs} (h : bt s 0 < 97 ∨ 122 < bt s 0) : isWordB s = false := by
  rw [word_def]
  have : lowB (bt s 0) = false := by simp only [lowB, Bool.and_eq_false_iff, decide_eq_false_iff_not]; omega
  rw [this]; simp
theorem word_at {s : Bs} {i : Nat} (hi : i < s.length) (h : letterB (bt s i) false = false) : isWordB s = false := by
  rw [word_def, all_not hi (by rw [wordC_bt hi]; exact h)]; simp
theorem word_yes {s : Bs} (h0 : ¬ s = []) (h1 : ¬ 40 < (s.length : Int)) (h2 : ¬ bt s 0 < 97) (h3 : ¬ 122 < bt s 0) (h4 : s.all wordC = true) : isWordB s = true := by
  have := List.length_pos_iff.2 h0
  rw [word_def, h4]
  simp only [lowB, Bool.and_true, Bool.and_eq_true, decide_eq_true_eq]
  omega
theorem ok_size {s : Bs} {most n : Int} (h : sizeS s most = .ok n) : digitsB s = true ∧ n = (dv s : Int) := by
  unfold sizeS at h
  split at h
  · rename_i hd
    split at h
    · cases h; exact ⟨hd, rfl⟩
    · cases h
  · cases h
theorem size_err {s : Bs} {most e : Int} (h : sizeS s most = .error e) : ¬ e = 0 := by
  unfold sizeS at h
  split at h
  · split at h
    · cases h
    · cases h; decide
  · cases h; decide
theorem parse_err {s : Bs} {e : Int} (h : parseS s = .error e) : ¬ e = 0 := by
  unfold parseS at h
  split at h
  · exact size_err h
  · split at h
    · rename_i hm; cases h; exact size_err hm
    · split at h
      · cases h; decide
      · cases h
theorem bt0 {b : UInt8} {s : Bs} : bt (b :: s) 0 = (b.toNat : Int) := rfl
theorem dd_not45 (k : Nat) : ¬ bt (dd k) 0 = 45 := by
  have h := dig_at (dd_all k) (i := 0) (dd_pos k)
  have e : bt (dd k) ((0 : Nat) : Int) = bt (dd k) 0 := rfl
  rw [e] at h
  omega
theorem parse_itoa {n : Int} (hn : -9223372036854775808 ≤ n ∧ n ≤ 9223372036854775807) : parseS (Lib.itoa n) = .ok n := by
  by_cases h : 0 ≤ n
  · rw [itoa_nn h, parse_pos (.inr (dd_not45 _)), size_ok (dd_digits _) (by rw [dd_dv]; omega), dd_dv]
    rw [show ((n.toNat : Nat) : Int) = n by omega]
  · rw [itoa_ng (by omega)]
    rw [parse_nok (s := 45 :: dd n.natAbs) ⟨by simp, rfl⟩ (dd_digits _) (fun e => by
      have e1 : dd n.natAbs = [48] := e
      have := dd_dv n.natAbs
      rw [e1] at this
      have e2 : dv [48] = 0 := rfl
      omega) (by show (dv (dd n.natAbs) : Int) ≤ _; rw [dd_dv]; omega)]
    show Except.ok (-(dv (dd n.natAbs) : Int)) = _
    rw [dd_dv]
    congr 1
    omega
theorem itoa_parse {s : Bs} {n : Int} (h : parseS s = .ok n) : Lib.itoa n = s := by
  unfold parseS at h
  split at h
  · obtain ⟨hd, rfl⟩ := ok_size h
    rw [itoa_nn (by omega)]
    exact dd_of hd
  · rename_i hc
    simp only [not_or, ne_eq, Classical.not_not] at hc
    split at h
    · cases h
    · rename_i m hm
      split at h
      · cases h
      · rename_i h0
        cases h
        obtain ⟨hd, rfl⟩ := ok_size hm
        rw [itoa_ng (by omega), show (-(dv (s.drop 1) : Int)).natAbs = dv (s.drop 1) by omega, dd_of hd]
        match s, hc with
        | b :: r, hc =>
          have e : b = 45 := UInt8.toNat_inj.1 (by have := hc.2; rw [bt0] at this; simp; omega)
          rw [e]; rfl
theorem parse_range {s : Bs} {n : Int} (h : parseS s = .ok n) : -9223372036854775808 ≤ n ∧ n ≤ 9223372036854775807 := by
  unfold parseS at h
  split at h
  · have := size_bound h; omega
  · split at h
    · cases h
    · rename_i hm
      split at h
      · cases h
      · cases h
        have := size_bound hm
        omega
theorem okv_range {s : Bs} : I64 (okv (parseS s)) := by
  cases hp : parseS s with
  | error e => exact (by decide : I64 0)
  | ok n => exact parse_range hp
theorem itoa_inj {a b : Int} (ha : I64 a) (hb : I64 b) (h : Lib.itoa a = Lib.itoa b) : a = b := by
  have h1 := parse_itoa ha
  rw [h, parse_itoa hb] at h1
  cases h1; rfl
theorem itoa_eq {a b : Int} (ha : I64 a) (hb : I64 b) : (Lib.itoa a == Lib.itoa b) = decide (a = b) := by
  by_cases h : a = b
  · subst h; simp
  · rw [decide_eq_false h]
    simp only [beq_eq_false_iff_ne, ne_eq]
    exact fun e => h (itoa_inj ha hb e)
theorem itoa_len {a b : Int} (ha : ¬ a < 0) (hb : ¬ b < 0) (h : a ≤ b) : (Lib.itoa a).length ≤ (Lib.itoa b).length := by
  rw [itoa_nn (by omega), itoa_nn (by omega)]
  have h1 := least_iff (dd_digits a.toNat) (dd_digits b.toNat)
  rw [dd_dv, dd_dv, decide_eq_true (show a.toNat ≤ b.toNat by omega)] at h1
  unfold leastB at h1
  simp only [Bool.or_eq_true, Bool.and_eq_true, decide_eq_true_eq] at h1
  omega
def rightV (v : Val) : Bool :=
  if v.k = 0 then decide (v.n = 0) && v.s == [] else if v.k = 1 then v.s == [] else if v.k = 2 then decide (v.n = 0) && isWordB v.s
  else if v.k = 3 then (decide (v.n = 0) || decide (v.n = 1)) && v.s == [] else false
def printV (v : Val) : Bs :=
  if rightV v = false then [] else if v.k = 0 then [126] else if v.k = 1 then Lib.itoa v.n else if v.k = 2 then v.s else if v.n = 1 then [84] else [70]
theorem right3 {x : Val} (h : rightV x = true) (h0 : ¬ x.k = 0) (h1 : ¬ x.k = 1) (h2 : ¬ x.k = 2) : x.k = 3 ∧ x.s = [] := by
  unfold rightV at h
  rw [if_neg h0, if_neg h1, if_neg h2] at h
  split at h
  · rename_i h3
    simp only [Bool.and_eq_true, beq_iff_eq] at h
    exact ⟨h3, h.2⟩
  · cases h
theorem right0 {x : Val} (h : rightV x = true) (h1 : ¬ x.k = 1) (h2 : ¬ x.k = 2) (h3 : ¬ x.k = 3) : x.k = 0 := by
  by_cases h0 : x.k = 0
  · exact h0
  · exact absurd (right3 h h0 h1 h2).1 h3
theorem print_len {x : Val} (hv : x.Wf) : (printV x).length ≤ 9223372036854775807 := by
  unfold printV
  split
  · decide
  split
  · decide
  split
  · have := Lib.itoa_length_le x.n hv.n.1 hv.n.2; omega
  split
  · exact hv.s
  split
  · decide
  · decide
theorem parse_wf {s : Bs} (hl : s.length ≤ 9223372036854775807) : (parseV s).1.Wf := by
  have h0 : I64 0 := by decide
  have h3 : I64 3 := by decide
  have h1 : I64 1 := by decide
  have h2 : I64 2 := by decide
  have hz : ([] : Bs).length ≤ 9223372036854775807 := by decide
  unfold parseV
  split
  · exact ⟨h0, h0, hz⟩
  split
  · exact ⟨h3, h1, hz⟩
  split
  · exact ⟨h3, h0, hz⟩
  split
  · exact ⟨h2, h0, hl⟩
  split
  · exact ⟨h0, h0, hz⟩
  · refine ⟨h1, ?_, hz⟩
    show I64 (okv (parseS s))
    cases hp : parseS s with
    | error e => exact h0
    | ok n => exact parse_range hp
theorem word_low {s : Bs} (h : isWordB s = true) : 97 ≤ bt s 0 ∧ bt s 0 ≤ 122 := by
  rw [word_def] at h
  simp only [lowB, Bool.and_eq_true, decide_eq_true_eq] at h
  exact h.2.1
theorem itoa_first {n : Int} : bt (Lib.itoa n) 0 = 45 ∨ (48 ≤ bt (Lib.itoa n) 0 ∧ bt (Lib.itoa n) 0 ≤ 57) := by
  by_cases h : 0 ≤ n
  · rw [itoa_nn h]
    exact .inr (dig_at (dd_all _) (i := 0) (dd_pos _))
  · rw [itoa_ng (by omega)]; exact .inl rfl
theorem itoa_noword {n : Int} : isWordB (Lib.itoa n) = false := by
  cases h : isWordB (Lib.itoa n) with
  | false => rfl
  | true => have := word_low h; have := itoa_first (n := n); omega
theorem bt_one (b : UInt8) : bt [b] 0 = (b.toNat : Int) := rfl
theorem parse_print {v : Val} (hn : -9223372036854775808 ≤ v.n ∧ v.n ≤ 9223372036854775807) (h : rightV v = true) : parseV (printV v) = (v, 0) := by
  obtain ⟨k, n, s⟩ := v
  unfold printV
  rw [if_neg (by rw [h]; decide)]
  unfold rightV at h
  dsimp only at h hn ⊢
  split at h
  · rename_i h1
    subst h1
    simp only [Bool.and_eq_true, decide_eq_true_eq, beq_iff_eq] at h
    obtain ⟨rfl, rfl⟩ := h
    rfl
  · rename_i h1
    rw [if_neg h1]
    split at h
    · rename_i h2
      subst h2
      rw [if_pos rfl]
      have hs : s = [] := by simpa using h
      subst hs
      have hf := itoa_first (n := n)
      unfold parseV
      rw [if_neg (fun e => by rw [e, bt_one] at hf; revert hf; decide), if_neg (fun e => by rw [e, bt_one] at hf; revert hf; decide), if_neg (fun e => by rw [e, bt_one] at hf; revert hf; decide), if_neg (by rw [itoa_noword]; decide), parse_itoa hn]
      rfl
    · rename_i h2
      rw [if_neg h2]
      split at h
      · rename_i h3
        subst h3
        rw [if_pos rfl]
        simp only [Bool.and_eq_true, decide_eq_true_eq] at h
        obtain ⟨rfl, hw⟩ := h
        have hf := word_low hw
        unfold parseV
        rw [if_neg (fun e => by rw [e, bt_one] at hf; revert hf; decide), if_neg (fun e => by rw [e, bt_one] at hf; revert hf; decide), if_neg (fun e => by rw [e, bt_one] at hf; revert hf; decide), if_pos hw]
      · rename_i h3
        rw [if_neg h3]
        split at h
        · rename_i h4
          subst h4
          simp only [Bool.and_eq_true, Bool.or_eq_true, decide_eq_true_eq, beq_iff_eq] at h
          obtain ⟨hn', rfl⟩ := h
          rcases hn' with rfl | rfl
          · rfl
          · rfl
        · cases h
theorem print_parse {s : Bs} (h : (parseV s).2 = 0) : rightV (parseV s).1 = true ∧ printV (parseV s).1 = s := by
  revert h
  unfold parseV
  split
  · rename_i h1; intro _; subst h1; exact ⟨rfl, rfl⟩
  split
  · rename_i h1; intro _; subst h1; exact ⟨rfl, rfl⟩
  split
  · rename_i h1; intro _; subst h1; exact ⟨rfl, rfl⟩
  split
  · rename_i hw
    intro _
    have hr : rightV ⟨2, 0, s⟩ = true := by show (decide ((0 : Int) = 0) && isWordB s) = true; rw [hw]; rfl
    refine ⟨hr, ?_⟩
    unfold printV
    rw [if_neg (by rw [hr]; decide)]
    rfl
  split
  · rename_i he; intro h; exact absurd h he
  · rename_i he
    intro _
    refine ⟨rfl, ?_⟩
    simp only [Classical.not_not] at he
    show Lib.itoa (okv (parseS s)) = s
    cases hp : parseS s with
    | error e =>
      rw [hp] at he
      have he' : e = 0 := he
      exfalso
      exact parse_err hp he'
    | ok n => exact itoa_parse hp

/-- What a line has, and its note; the fault. -/
def noteS (s : Bs) : Bs × Bs × Bool × Int :=
  if cutF s 59 = false then (s, [], false, 0)
  else if (!Lib.hasSuffix (cutA s 59) [32]) = true ∨ 100 < ((cutB s 59).length : Int) ∨ 0 ≤ Lib.indexByte (cutB s 59) 10 then ([], [], false, 2)
  else (Lib.trimSuffix (cutA s 59) [32], cutB s 59, true, 0)
theorem cutA_len (s : Bs) (c : UInt8) : (cutA s c).length ≤ s.length := by
  unfold cutA
  rcases index_two s c with h | ⟨i, h⟩
  · rw [cut_none h]; exact Nat.le_refl _
  · rw [cut_some h, List.length_take]; omega
theorem cutB_len (s : Bs) (c : UInt8) : (cutB s c).length ≤ s.length := by
  unfold cutB
  rcases index_two s c with h | ⟨i, h⟩
  · rw [cut_none h]; exact Nat.zero_le _
  · rw [cut_some h, List.length_drop]; omega
theorem idx_none {s : Bs} {c : UInt8} (h : ∀ j (hj : j < s.length), ¬ s[j] = c) : Lib.indexByte s c = -1 := by
  induction s with
  | nil => rfl
  | cons b r ih =>
    have h0 := h 0 (by simp)
    have hr := ih fun j hj => h (j + 1) (by simpa using hj)
    simp only [List.getElem_cons_zero] at h0
    unfold Lib.indexByte
    rw [hr]
    simp [h0]
theorem idx_at {s : Bs} {c : UInt8} {i : Nat} (hi : i < s.length) (he : s[i] = c) (h : ∀ j (hj : j < i), ¬ s[j]'(by omega) = c) : Lib.indexByte s c = (i : Int) := by
  induction s generalizing i with
  | nil => simp at hi
  | cons b r ih =>
    unfold Lib.indexByte
    cases i with
    | zero =>
      have : b = c := he
      simp [this]
    | succ i =>
      have h0 := h 0 (by omega)
      simp only [List.getElem_cons_zero] at h0
      have hr := ih (i := i) (by simpa using hi) (by simpa using he) fun j hj => by have := h (j + 1) (by omega); simpa using this
      rw [hr]
      have hb : (b == c) = false := by simpa using h0
      have hx : (((i : Nat) : Int) == -1) = false := by
        simp only [beq_eq_false_iff_ne, ne_eq]; omega
      rw [hb, hx]
      simp
theorem idx_pos {s : Bs} {c : UInt8} {i : Nat} (hi : i < s.length) (he : s[i] = c) : 0 ≤ Lib.indexByte s c := by
  rcases index_two s c with h | ⟨k, h⟩
  · exfalso
    induction s generalizing i with
    | nil => simp at hi
    | cons b r ih =>
      unfold Lib.indexByte at h
      split at h
      · cases h
      · rename_i hb
        have hr : Lib.indexByte r c = -1 := by
          split at h
          · rename_i h2; simpa using h2
          · have := Lib.indexByte_ge r c; omega
        cases i with
        | zero => exact hb (by simpa using he)
        | succ i => exact ih (i := i) (by simpa using hi) (by simpa using he) hr
  · omega

theorem suff_snoc (q : Bs) (b c : UInt8) : Lib.hasSuffix (q ++ [b]) [c] = decide (b = c) := by
  unfold Lib.hasSuffix
  rw [Bool.eq_iff_iff, List.isSuffixOf_iff_suffix, decide_eq_true_eq]
  constructor
  · rintro ⟨t, h⟩
    exact (List.append_inj' h rfl).2 |> fun e => by simpa using e.symm
  · rintro rfl
    exact ⟨q, rfl⟩
theorem suff_nil (c : UInt8) : Lib.hasSuffix [] [c] = false := rfl
theorem trim_snoc (q : Bs) (c : UInt8) : Lib.trimSuffix (q ++ [c]) [c] = q := by
  unfold Lib.trimSuffix
  rw [suff_snoc, decide_eq_true rfl, if_pos rfl]
  simp
theorem note_none {s : Bs} {i : Nat} (h1 : s.length ≤ i) (ha : ∀ j (hj : j < s.length), ¬ s[j] = 59) : noteS s = (s, [], false, 0) := by
  unfold noteS cutF
  rw [cut_none (idx_none ha), if_pos rfl]
theorem note_at {s : Bs} {i : Nat} (hi : i < s.length) (he : s[i] = 59) (ha : ∀ j (hj : j < i), ¬ s[j]'(by omega) = 59) :
    noteS s = if ((i : Int) = 0 ∨ ¬ bt s ((i : Int) - 1) = 32) ∨ 100 < ((List.drop ((i : Int) + 1).toNat s).length : Int) ∨ 0 ≤ Lib.indexByte (List.drop ((i : Int) + 1).toNat s) 10 then ([], [], false, 2) else (List.take ((i : Int) - 1).toNat s, List.drop ((i : Int) + 1).toNat s, true, 0) := by
  have hc := cut_some (idx_at hi he ha)
  have e1 : ((i : Int) + 1).toNat = i + 1 := by omega
  unfold noteS cutF cutA cutB
  rw [hc, e1]
  dsimp only
  rw [if_neg (by decide)]
  rcases Nat.eq_zero_or_pos i with h0 | h0
  · subst h0
    rw [if_pos (by left; rfl), if_pos (by left; left; rfl)]
  · obtain ⟨k, rfl⟩ : ∃ k, i = k + 1 := ⟨i - 1, by omega⟩
    have e2 : (((k + 1 : Nat) : Int) - 1).toNat = k := by omega
    have e3 : s.take (k + 1) = s.take k ++ [s[k]] := take_snoc (by omega)
    have e4 : bt s (((k + 1 : Nat) : Int) - 1) = ((s[k].toNat : Nat) : Int) := by rw [show ((k + 1 : Nat) : Int) - 1 = (k : Int) by omega]; exact bt_nat (by omega)
    have e5 : (((k + 1 : Nat) : Int) = 0 ∨ ¬ bt s (((k + 1 : Nat) : Int) - 1) = 32) ↔ ¬ s[k] = 32 := by
      rw [e4]
      constructor
      · rintro (h | h)
        · omega
        · intro e; rw [e] at h; exact h rfl
      · intro h
        right
        intro e
        exact h (UInt8.toNat_inj.1 (by simpa using (by omega : s[k].toNat = 32)))
    rw [e2, e3, suff_snoc]
    by_cases hk : s[k] = 32
    · rw [hk, decide_eq_true rfl, trim_snoc]
      have : ¬ (((k + 1 : Nat) : Int) = 0 ∨ ¬ bt s (((k + 1 : Nat) : Int) - 1) = 32) := fun h => e5.1 h hk
      simp only [this, false_or, Bool.not_true, Bool.false_eq_true]
    · rw [decide_eq_false hk, if_pos (by left; rfl), if_pos (.inl (e5.2 hk))]

theorem note_cases (s : Bs) : (noteS s).2.2.2 = 0 ∨ noteS s = ([], [], false, 2) := by
  unfold noteS
  split
  · exact .inl rfl
  · split
    · exact .inr rfl
    · exact .inl rfl

def nb (b : UInt8) : Bool := !(b == 32)
def okW (x : Bs) : Bool := x.all nb && !(x == [])
theorem nb_step {x : Bs} {k : Nat} {Q : Bool} (hk : k < x.length) : (((x.take k).all nb && Q) && !decide (bt x ((k : Nat) : Int) = 32)) = ((x.take (k + 1)).all nb && Q) := by
  have e : (x.take (k + 1)).all nb = ((x.take k).all nb && nb x[k]) := by
    rw [List.take_add_one, List.getElem?_eq_getElem hk, List.all_append]; simp
  have e2 : (!decide (bt x ((k : Nat) : Int) = 32)) = nb x[k] := by
    unfold nb
    congr 1
    rw [bt_nat hk, Bool.eq_iff_iff, decide_eq_true_eq, beq_iff_eq]
    exact ⟨fun h => UInt8.toNat_inj.1 (by simpa using (by omega : x[k].toNat = 32)), fun h => by rw [h]; rfl⟩
  rw [e, e2]
  cases (x.take k).all nb <;> cases Q <;> cases nb x[k] <;> rfl
theorem okW_step {l : List Bs} {i k : Nat} {x : Bs} {D : Bool} (hi : i < l.length) (ex : l[i] = x) (hk : x.length ≤ k) : ((x.take k).all nb && (((l.take i).all okW && D) && !(x == []))) = ((l.take (i + 1)).all okW && D) := by
  have e : (l.take (i + 1)).all okW = ((l.take i).all okW && okW l[i]) := by
    rw [List.take_add_one, List.getElem?_eq_getElem hi, List.all_append]; simp
  rw [e, ex, List.take_of_length_le hk, show okW x = (x.all nb && !(x == [])) from rfl]
  cases x.all nb <;> cases D <;> cases (l.take i).all okW <;> cases (x == []) <;> rfl
theorem len_step {l : List Bs} {i : Nat} {x : Bs} (hi : i < l.length) (ex : l[i] = x) (h : ∀ x ∈ l.take i, x.length ≤ 100) (hx : x.length ≤ 100) : ∀ x ∈ l.take (i + 1), x.length ≤ 100 := by
  rw [List.take_add_one, List.getElem?_eq_getElem hi]
  intro y hy
  simp only [Option.toList_some, List.mem_append, List.mem_singleton] at hy
  rcases hy with hy | rfl
  · exact h y hy
  · rw [ex]; exact hx
theorem okW_all {l : List Bs} (h : l.all okW = true) : ∀ x ∈ l, 32 ∉ x ∧ x ≠ [] := by
  intro x hx
  have := List.all_eq_true.1 h x hx
  unfold okW at this
  simp only [Bool.and_eq_true, List.all_eq_true] at this
  refine ⟨fun hm => ?_, fun e => ?_⟩
  · have := this.1 32 hm
    exact absurd this (by decide)
  · rw [e] at this
    exact absurd this.2 (by decide)
theorem sub_lst' {c : UInt8} {s : Bs} {p : Nat × Nat} (h : p.2 = atS c s p.1) (hn : p.1 ≤ s.length) : sub s ((p.2 : Nat) : Int) ((p.1 : Nat) : Int) = lst c (s.take p.1) := by
  rw [h]; exact sub_lst hn

structure Row where
  model : Int
  op : Int
  ins : Bs
  out : Int
  may : Bool deriving DecidableEq
abbrev rowCells (r : Row) : List Value := [.int .i64 r.model, .int .i64 r.op, str r.ins, .int .i64 r.out, .bool r.may]
def kRow : Knd Row where
  sz := 5
  R := fun _ x cs => cs = rowCells x
  len := by rintro G x cs rfl; rfl
  le := fun _ h => h
theorem kRow_open {G : Heap} {b o : Nat} {x : Row} (h : ElAt kRow G b o x) : CellsAt G b o (rowCells x) := by
  obtain ⟨cs, rfl, hc⟩ := h
  exact hc
theorem kRow_one : KOne kRow := by rintro G x cs rfl; rfl
def rowsT : List Row := [⟨1, 1, [118], (-1), false⟩, ⟨1, 2, [], 2, true⟩, ⟨2, 1, [118], (-1), false⟩, ⟨2, 2, [], 2, true⟩, ⟨2, 3, [118, 118], 6, false⟩, ⟨3, 4, [118], (-1), false⟩, ⟨3, 5, [118], (-1), false⟩, ⟨3, 6, [118], 6, false⟩, ⟨4, 7, [102, 118], (-1), false⟩, ⟨4, 8, [102], 2, true⟩, ⟨4, 5, [102], (-1), false⟩, ⟨5, 9, [118], (-1), false⟩, ⟨5, 10, [], 2, true⟩, ⟨6, 9, [118], (-1), false⟩, ⟨6, 10, [], 2, true⟩, ⟨7, 11, [], 6, false⟩, ⟨7, 12, [], 6, false⟩, ⟨8, 4, [110], (-1), false⟩, ⟨8, 2, [], 5, false⟩, ⟨9, 1, [111], (-1), false⟩, ⟨9, 2, [], 4, true⟩, ⟨10, 7, [111, 118], (-1), false⟩, ⟨10, 5, [111], (-1), false⟩, ⟨10, 13, [111, 111], 99, false⟩]
def isRow (m o : Int) (r : Row) : Bool := decide (r.model = m) && decide (r.op = o)
def findS (m o : Int) : Row × Bool := match rowsT.find? (isRow m o) with
  | some r => (r, true)
  | none => (⟨0, 0, [], 0, false⟩, false)
def idxR : List Row → Int → Int → Int → Int
  | [], _, _, _ => -1
  | r :: rs, k, m, o => if isRow m o r = true then k else idxR rs (k + 1) m o
theorem idxR_step {rows : List Row} {i : Nat} {k m o : Int} {x : Row} {h : i < rows.length} (e : rows[i] = x) : idxR (rows.drop i) k m o = if isRow m o x = true then k else idxR (rows.drop (i + 1)) (k + 1) m o := by
  rw [List.drop_eq_getElem_cons h, e]
  rfl
theorem idxR_find (m o : Int) : ∀ (rows : List Row) (k : Int), 0 ≤ k → (idxR rows k m o = -1 ∧ rows.find? (isRow m o) = none) ∨ ∃ (j : Nat) (r : Row), idxR rows k m o = k + (j : Int) ∧ rows[j]? = some r ∧ rows.find? (isRow m o) = some r
  | [], k, _ => .inl ⟨rfl, rfl⟩
  | r :: rs, k, hk => by
    unfold idxR
    rw [List.find?_cons]
    by_cases h : isRow m o r = true
    · rw [if_pos h, h]
      exact .inr ⟨0, r, by omega, rfl, rfl⟩
    · rw [if_neg h, Bool.eq_false_iff.2 h]
      rcases idxR_find m o rs (k + 1) (by omega) with ⟨h1, h2⟩ | ⟨j, x, h1, h2, h3⟩
      · exact .inl ⟨h1, h2⟩
      · exact .inr ⟨j + 1, x, by rw [h1]; omega, by simpa using h2, h3⟩
theorem find_no {m o : Int} (h : idxR rowsT 0 m o < 0) : findS m o = (⟨0, 0, [], 0, false⟩, false) := by
  unfold findS
  rcases idxR_find m o rowsT 0 (by decide) with ⟨_, h2⟩ | ⟨j, x, h1, _, _⟩
  · rw [h2]
  · omega
theorem find_yes {m o : Int} (h : ¬ idxR rowsT 0 m o < 0) : (idxR rowsT 0 m o).toNat < rowsT.length ∧ ∀ x (h2 : (idxR rowsT 0 m o).toNat < rowsT.length), rowsT[(idxR rowsT 0 m o).toNat] = x → findS m o = (x, true) := by
  unfold findS
  rcases idxR_find m o rowsT 0 (by decide) with ⟨h1, h2⟩ | ⟨j, y, h1, h2, h3⟩
  · omega
  · have e : (idxR rowsT 0 m o).toNat = j := by omega
    have hl : j < rowsT.length := (List.getElem?_eq_some_iff.1 h2).1
    refine ⟨by omega, fun x hx hxx => ?_⟩
    rw [h3]
    have := (List.getElem?_eq_some_iff.1 h2).2
    simp only [e] at hxx
    rw [← hxx, this]
/-- The number of a word in a list; not the first one's. -/
def idxW : List Bs → Int → Bs → Int × Bool
  | [], _, _ => (0, false)
  | x :: r, k, w => if (decide (0 < k) && (x == w)) = true then (k, true) else idxW r (k + 1) w
theorem idxW_step {ws : List Bs} {i : Nat} {k : Int} {w x : Bs} {h : i < ws.length} (e : ws[i] = x) : idxW (ws.drop i) k w = if (decide (0 < k) && (x == w)) = true then (k, true) else idxW (ws.drop (i + 1)) (k + 1) w := by
  rw [List.drop_eq_getElem_cons h, e]
  rfl
def modelsW : List Bs := [[], [114, 101, 103], [99, 97, 115], [115, 101, 116], [109, 97, 112], [102, 105, 102, 111], [115, 116, 97, 99, 107], [108, 111, 99, 107], [99, 111, 117, 110, 116], [109, 97, 120], [111, 109, 97, 112]]
def opsW : List Bs := [[], [119, 114, 105, 116, 101], [114, 101, 97, 100], [115, 119, 97, 112], [97, 100, 100], [100, 101, 108], [104, 97, 115], [112, 117, 116], [103, 101, 116], [112, 117, 115, 104], [112, 111, 112], [116, 97, 107, 101], [102, 114, 101, 101], [115, 99, 97, 110]]
def namedW : List Bs := [[], [105, 110, 118, 111, 107, 101], [111, 107], [102, 97, 105, 108], [105, 110, 102, 111]]
def modelS (w : Bs) : Int × Bool := idxW modelsW 0 w
def opS (w : Bs) : Int × Bool := idxW opsW 0 w
def typedS (w : Bs) : Int × Bool := if [105, 110, 118, 111, 107, 101] == w then (1, true) else if [111, 107] == w then (2, true) else if [102, 97, 105, 108] == w then (3, true) else if [105, 110, 102, 111] == w then (4, true) else (0, false)
theorem idxW_rng : ∀ (ws : List Bs) (k : Int) (w : Bs), 0 ≤ k → 0 ≤ (idxW ws k w).1 ∧ (idxW ws k w).1 ≤ k + (ws.length : Int)
  | [], k, w, h => by show (0 : Int) ≤ 0 ∧ (0 : Int) ≤ _; simp; omega
  | x :: r, k, w, h => by
    unfold idxW
    split
    · show 0 ≤ k ∧ k ≤ _; omega
    · have := idxW_rng r (k + 1) w (by omega)
      simp only [List.length_cons]
      omega
def takesB (d : Int) (v : Val) : Bool :=
  if rightV v = false then false else if d = 0 ∨ d = 1 ∨ d = 2 ∨ d = 3 ∨ d = 4 then decide (v.k = 1) || decide (v.k = 2) else if d = 5 then decide (v.k = 1) else decide (d = 6) && decide (v.k = 3)
def domS (c : Int) : Int := if c = 118 then 2 else if c = 102 then 3 else if c = 111 then 4 else 5
def doms (s : Bs) : List Int := s.map fun b => domS (b.toNat : Int)
theorem doms_snoc {s : Bs} {i : Nat} (h : i < s.length) : doms (s.take i) ++ [domS (bt s (i : Int))] = doms (s.take (i + 1)) := by
  rw [bt_nat h]
  unfold doms
  rw [take_snoc h, List.map_append]
  rfl
def argsD (m o : Int) : List Int × Bool := if (findS m o).2 = true then (doms (findS m o).1.ins, true) else ([], false)
theorem find_len (m o : Int) : (findS m o).1.ins.length ≤ 2 := by
  unfold findS
  split
  · rename_i r h
    have hm := List.mem_of_find?_eq_some h
    have : ∀ r ∈ rowsT, r.ins.length ≤ 2 := by decide
    exact this r hm
  · decide
/-! What a line's words are read to. -/
def faultS (e e2 : Int) : Int := if e = 0 then e2 else e
theorem fault2_ne (e : Int) : ¬ faultS e 2 = 0 := by unfold faultS; split <;> omega
def nextS (l : List Bs) (e : Int) : Bs × List Bs × Int :=
  if (if l = [] then faultS e 2 else e) = 0 then (l.getD 0 [], l.drop 1, 0) else ([], l, if l = [] then faultS e 2 else e)
def valueS (d : Int) (l : List Bs) (e : Int) : Val × List Bs × Int :=
  if (nextS l e).2.2 = 0 then ((parseV (nextS l e).1).1, (nextS l e).2.1,
    if ((decide (faultS (nextS l e).2.2 (parseV (nextS l e).1).2 = 0) && decide (0 ≤ d)) && !takesB d (parseV (nextS l e).1).1) = true then faultS (faultS (nextS l e).2.2 (parseV (nextS l e).1).2) 2 else faultS (nextS l e).2.2 (parseV (nextS l e).1).2)
  else (⟨0, 0, []⟩, (nextS l e).2.1, (nextS l e).2.2)
def numberS (tab : Bs → Int × Bool) (l : List Bs) (e : Int) : Int × List Bs × Int :=
  ((tab (nextS l e).1).1, (nextS l e).2.1, if (!(tab (nextS l e).1).2) = true then faultS (nextS l e).2.2 2 else (nextS l e).2.2)
theorem next_len {l : List Bs} {e : Int} {M : Nat} (h : ∀ x ∈ l, x.length ≤ M) : (nextS l e).1.length ≤ M ∧ (∀ x ∈ (nextS l e).2.1, x.length ≤ M) ∧ (nextS l e).2.1.length ≤ l.length := by
  unfold nextS
  by_cases hc : (if l = [] then faultS e 2 else e) = 0
  · rw [if_pos hc]
    refine ⟨?_, fun x hx => h x (List.mem_of_mem_drop hx), by show (l.drop 1).length ≤ _; simp⟩
    cases l with
    | nil => exact Nat.zero_le _
    | cons a r => exact h a List.mem_cons_self
  · rw [if_neg hc]
    exact ⟨Nat.zero_le _, h, Nat.le_refl _⟩
theorem value_left (d : Int) (l : List Bs) (e : Int) : (valueS d l e).2.1 = (nextS l e).2.1 := by
  unfold valueS
  split <;> rfl
theorem value_wf {d : Int} {l : List Bs} {e : Int} (h : ∀ x ∈ l, x.length ≤ 4294967280) : (valueS d l e).1.Wf := by
  unfold valueS
  split
  · exact parse_wf (by have := (next_len (e := e) h).1; omega)
  · show (⟨0, 0, []⟩ : Val).Wf
    exact ⟨by decide, by decide, by decide⟩

def argsL : List Int → List Bs → Int → List Val × List Bs × Int
  | [], l, e => ([], l, e)
  | d :: r, l, e => ((valueS d l e).1 :: (argsL r (valueS d l e).2.1 (valueS d l e).2.2).1, (argsL r (valueS d l e).2.1 (valueS d l e).2.2).2)
theorem argsL_step {ds : List Int} {j : Nat} {d : Int} {l : List Bs} {e : Int} {h : j < ds.length} (ex : ds[j] = d) : argsL (ds.drop j) l e = ((valueS d l e).1 :: (argsL (ds.drop (j + 1)) (valueS d l e).2.1 (valueS d l e).2.2).1, (argsL (ds.drop (j + 1)) (valueS d l e).2.1 (valueS d l e).2.2).2) := by
  rw [List.drop_eq_getElem_cons h, ex]
  rfl
theorem args_len (m o : Int) : (argsD m o).1.length ≤ 2 := by
  unfold argsD
  split
  · unfold doms; rw [List.length_map]; exact find_len m o
  · exact Nat.zero_le _
/-- Model, key, operation, arguments. -/
def invS (l : List Bs) (e : Int) : Int × Val × Int × List Val × List Bs × Int :=
  let m := numberS modelS l e
  let k := valueS 1 m.2.1 m.2.2
  let o := numberS opS k.2.1 k.2.2
  let a := argsL (argsD m.1 o.1).1 o.2.1 (if (!(argsD m.1 o.1).2) = true then faultS o.2.2 2 else o.2.2)
  (m.1, k.1, o.1, a.1, a.2.1, a.2.2)
/-- The values behind `ok`. -/
def outL : List Bs → Int → List Val × List Bs × Int
  | [], e => ([], [], e)
  | x :: r, e => if e = 0 then ((parseV x).1 :: (outL r (parseV x).2).1, (outL r (parseV x).2).2) else ([], x :: r, e)
theorem value_cons (x : Bs) (r : List Bs) : valueS (-1) (x :: r) 0 = ((parseV x).1, r, (parseV x).2) := by
  simp [valueS, nextS, faultS]
theorem outL_step {l : List Bs} {e : Int} {z : Val × List Bs × Int} (h : ¬ l = []) (he : e = 0) (hz : z = valueS (-1) l e) : outL l e = (z.1 :: (outL z.2.1 z.2.2).1, (outL z.2.1 z.2.2).2) ∧ z.2.1.length < l.length := by
  subst he
  match l, h with
  | x :: r, _ =>
    rw [value_cons] at hz
    subst hz
    exact ⟨by rw [outL, if_pos rfl], Nat.lt_succ_self _⟩
theorem outL_end {l : List Bs} {e : Int} (h : ¬ (e = 0 ∧ ¬ l = [])) : outL l e = ([], l, e) := by
  match l with
  | [] => rfl
  | x :: r => rw [outL, if_neg (fun he => h ⟨he, by simp⟩)]
/-- A line's words: the event, what is left, the fault. -/
def allS (l : List Bs) : Evt × List Bs × Int :=
  let z1 := nextS l 0
  let z2 := valueS 0 z1.2.1 (faultS z1.2.2 (erv (countS z1.1 9223372036854775807)))
  let z3 := numberS typedS z2.2.1 z2.2.2
  let q : Evt × List Bs × Int := if z3.1 = 1 then (⟨okv (countS z1.1 9223372036854775807), z2.1, z3.1, (invS z3.2.1 z3.2.2).1, (invS z3.2.1 z3.2.2).2.1, (invS z3.2.1 z3.2.2).2.2.1, (invS z3.2.1 z3.2.2).2.2.2.1, [], false, []⟩, (invS z3.2.1 z3.2.2).2.2.2.2)
    else if z3.1 = 2 then (⟨okv (countS z1.1 9223372036854775807), z2.1, z3.1, 0, ⟨0, 0, []⟩, 0, [], (outL z3.2.1 z3.2.2).1, false, []⟩, (outL z3.2.1 z3.2.2).2)
    else (⟨okv (countS z1.1 9223372036854775807), z2.1, z3.1, 0, ⟨0, 0, []⟩, 0, [], [], false, []⟩, z3.2)
  (q.1, q.2.1, if 0 < q.2.1.length then faultS q.2.2 2 else q.2.2)
def E0 : Evt := ⟨0, ⟨0, 0, []⟩, 0, 0, ⟨0, 0, []⟩, 0, [], [], false, []⟩
def parseE (s : Bs) : Evt × Int :=
  if ¬ (noteS s).2.2.2 = 0 then (E0, (noteS s).2.2.2) else if ¬ (wordsS (noteS s).1).2 = 0 then (E0, (wordsS (noteS s).1).2)
  else if ¬ (allS (wordsS (noteS s).1).1).2.2 = 0 then (E0, (allS (wordsS (noteS s).1).1).2.2) else ({ (allS (wordsS (noteS s).1).1).1 with noted := (noteS s).2.2.1, note := (noteS s).2.1 }, 0)
theorem splitS_mem {c : UInt8} : ∀ {s x : Bs}, x ∈ splitS c s → x.length ≤ s.length
  | [], x, h => by simp [splitS] at h; subst h; exact Nat.le_refl _
  | b :: r, x, h => by
    unfold splitS at h
    split at h
    · rcases List.mem_cons.1 h with rfl | h
      · exact Nat.zero_le _
      · exact Nat.le_succ_of_le (splitS_mem h)
    · have ih := fun y => splitS_mem (c := c) (s := r) (x := y)
      split at h
      · simp at h; subst h; simp
      · rename_i y z hz
        rw [hz] at ih
        rcases List.mem_cons.1 h with rfl | h
        · simpa using ih y (by simp)
        · exact Nat.le_succ_of_le (ih x (List.mem_cons_of_mem _ h))
theorem words_mem {s x : Bs} (h : x ∈ (wordsS s).1) : x.length ≤ s.length := by
  unfold wordsS at h
  split at h
  · cases h
  · exact splitS_mem h
theorem lines_mem {s x : Bs} (h : x ∈ (linesS s).1) : x.length ≤ s.length := by
  unfold linesS at h
  split at h
  · exact splitS_mem (c := 10) ((List.dropLast_sublist _).subset h)
  · cases h
theorem note_len (s : Bs) : (noteS s).1.length ≤ s.length := by
  unfold noteS
  split
  · exact Nat.le_refl _
  · split
    · exact Nat.zero_le _
    · have h1 := cutA_len s 59
      have h2 : (Lib.trimSuffix (cutA s 59) [32]).length ≤ (cutA s 59).length := by
        unfold Lib.trimSuffix
        split
        · rw [List.length_take]; omega
        · exact Nat.le_refl _
      show (Lib.trimSuffix (cutA s 59) [32]).length ≤ _
      omega
theorem get0 {l : List Bs} {x : Bs} {h : (0 : Int).toNat < l.length} (e : l[(0 : Int).toNat] = x) : l.getD 0 [] = x := by
  rw [List.getD_eq_getElem?_getD, List.getElem?_eq_getElem (show 0 < l.length from h), Option.getD_some]; exact e

/-! The reference's tables. -/
def mnameS (m : Int) : Bs := if m = 1 then [114, 101, 103] else if m = 2 then [99, 97, 115] else if m = 3 then [115, 101, 116] else if m = 4 then [109, 97, 112] else if m = 5 then [102, 105, 102, 111] else if m = 6 then [115, 116, 97, 99, 107] else if m = 7 then [108, 111, 99, 107] else if m = 8 then [99, 111, 117, 110, 116] else if m = 9 then [109, 97, 120] else if m = 10 then [111, 109, 97, 112] else []
def onameS (o : Int) : Bs := if o = 1 then [119, 114, 105, 116, 101] else if o = 2 then [114, 101, 97, 100] else if o = 3 then [115, 119, 97, 112] else if o = 4 then [97, 100, 100] else if o = 5 then [100, 101, 108] else if o = 6 then [104, 97, 115] else if o = 7 then [112, 117, 116] else if o = 8 then [103, 101, 116] else if o = 9 then [112, 117, 115, 104] else if o = 10 then [112, 111, 112] else if o = 11 then [116, 97, 107, 101] else if o = 12 then [102, 114, 101, 101] else if o = 13 then [115, 99, 97, 110] else []
theorem mname_at {i : Nat} {h : i < modelsW.length} (h1 : 1 ≤ i) : modelsW[i] = mnameS (i : Int) := by
  have hc : ((List.range 11).all fun i => decide (i = 0) || decide (modelsW[i]? = some (mnameS (i : Int)))) = true := by decide +kernel
  have h2 : i < 11 := h
  have := List.all_eq_true.1 hc i (List.mem_range.2 h2)
  simp only [Bool.or_eq_true, decide_eq_true_eq] at this
  rcases this with h3 | h3
  · omega
  · rw [List.getElem?_eq_getElem h] at h3; exact Option.some.inj h3
theorem oname_at {i : Nat} {h : i < opsW.length} (h1 : 1 ≤ i) : opsW[i] = onameS (i : Int) := by
  have hc : ((List.range 14).all fun i => decide (i = 0) || decide (opsW[i]? = some (onameS (i : Int)))) = true := by decide +kernel
  have h2 : i < 14 := h
  have := List.all_eq_true.1 hc i (List.mem_range.2 h2)
  simp only [Bool.or_eq_true, decide_eq_true_eq] at this
  rcases this with h3 | h3
  · omega
  · rw [List.getElem?_eq_getElem h] at h3; exact Option.some.inj h3
def sgnTab : List (Bs × List Int × Int × Bool) := [([114, 101, 103, 32, 119, 114, 105, 116, 101], [2], (-1), false), ([99, 97, 115, 32, 119, 114, 105, 116, 101], [2], (-1), false), ([115, 101, 116, 32, 97, 100, 100], [2], (-1), false), ([115, 101, 116, 32, 100, 101, 108], [2], (-1), false), ([102, 105, 102, 111, 32, 112, 117, 115, 104], [2], (-1), false), ([115, 116, 97, 99, 107, 32, 112, 117, 115, 104], [2], (-1), false), ([114, 101, 103, 32, 114, 101, 97, 100], [], 2, true), ([99, 97, 115, 32, 114, 101, 97, 100], [], 2, true), ([102, 105, 102, 111, 32, 112, 111, 112], [], 2, true), ([115, 116, 97, 99, 107, 32, 112, 111, 112], [], 2, true), ([99, 97, 115, 32, 115, 119, 97, 112], [2, 2], 6, false), ([115, 101, 116, 32, 104, 97, 115], [2], 6, false), ([109, 97, 112, 32, 112, 117, 116], [3, 2], (-1), false), ([109, 97, 112, 32, 103, 101, 116], [3], 2, true), ([109, 97, 112, 32, 100, 101, 108], [3], (-1), false), ([108, 111, 99, 107, 32, 116, 97, 107, 101], [], 6, false), ([108, 111, 99, 107, 32, 102, 114, 101, 101], [], 6, false), ([99, 111, 117, 110, 116, 32, 97, 100, 100], [5], (-1), false), ([99, 111, 117, 110, 116, 32, 114, 101, 97, 100], [], 5, false), ([109, 97, 120, 32, 119, 114, 105, 116, 101], [4], (-1), false), ([111, 109, 97, 112, 32, 100, 101, 108], [4], (-1), false), ([109, 97, 120, 32, 114, 101, 97, 100], [], 4, true), ([111, 109, 97, 112, 32, 112, 117, 116], [4, 2], (-1), false), ([111, 109, 97, 112, 32, 115, 99, 97, 110], [4, 4], 99, false)]
def sgnT (t : Bs) : List Int × Int × Bool × Bool := match sgnTab.find? (fun r => r.1 == t) with
  | some r => (r.2.1, r.2.2.1, r.2.2.2, true)
  | none => ([], 0, false, false)
def sgnF (m o : Int) : List Int × Int × Bool × Bool := (doms (findS m o).1.ins, (findS m o).1.out, (findS m o).1.may, (findS m o).2)
theorem rows_rng : (rowsT.all fun r => decide (1 ≤ r.model ∧ r.model ≤ 10 ∧ 1 ≤ r.op ∧ r.op ≤ 13)) = true := by decide +kernel
theorem find_out {m o : Int} (h : ¬ (1 ≤ m ∧ m ≤ 10 ∧ 1 ≤ o ∧ o ≤ 13)) : findS m o = (⟨0, 0, [], 0, false⟩, false) := by
  unfold findS
  rw [List.find?_eq_none.2]
  intro r hr hc
  have h1 := List.all_eq_true.1 rows_rng r hr
  simp only [isRow, Bool.and_eq_true, decide_eq_true_eq] at h1 hc
  omega
theorem mname_out {m : Int} (h : ¬ (1 ≤ m ∧ m ≤ 10)) : mnameS m = [] := by
  unfold mnameS
  repeat rw [if_neg (by omega)]
theorem oname_out {o : Int} (h : ¬ (1 ≤ o ∧ o ≤ 13)) : onameS o = [] := by
  unfold onameS
  repeat rw [if_neg (by omega)]
theorem sgn_all : ((List.range 11).all fun m => (List.range 14).all fun o => decide (sgnT (mnameS (m : Int) ++ [32] ++ onameS (o : Int)) = sgnF (m : Int) (o : Int))) = true := by decide +kernel
theorem find_sgn (m o : Int) : sgnT (mnameS m ++ [32] ++ onameS o) = sgnF m o := by
  have key : ∀ (m o : Int), 0 ≤ m → m ≤ 10 → 0 ≤ o → o ≤ 13 → sgnT (mnameS m ++ [32] ++ onameS o) = sgnF m o := by
    intro m o h1 h2 h3 h4
    have h := List.all_eq_true.1 (List.all_eq_true.1 sgn_all m.toNat (List.mem_range.2 (by omega))) o.toNat (List.mem_range.2 (by omega))
    rw [decide_eq_true_eq, show ((m.toNat : Nat) : Int) = m by omega, show ((o.toNat : Nat) : Int) = o by omega] at h
    exact h
  by_cases hm : 1 ≤ m ∧ m ≤ 10
  · by_cases ho : 1 ≤ o ∧ o ≤ 13
    · exact key m o (by omega) (by omega) (by omega) (by omega)
    · have e : sgnF m o = sgnF m 0 := by unfold sgnF; rw [find_out (m := m) (o := o) (by omega), find_out (m := m) (o := 0) (by omega)]
      rw [e, ← key m 0 (by omega) (by omega) (by omega) (by omega), oname_out ho, oname_out (o := 0) (by omega)]
  · by_cases ho : 1 ≤ o ∧ o ≤ 13
    · have e : sgnF m o = sgnF 0 o := by unfold sgnF; rw [find_out (m := m) (o := o) (by omega), find_out (m := 0) (o := o) (by omega)]
      rw [e, ← key 0 o (by omega) (by omega) (by omega) (by omega), mname_out hm, mname_out (m := 0) (by omega)]
    · have e : sgnF m o = sgnF 0 0 := by unfold sgnF; rw [find_out (m := m) (o := o) (by omega), find_out (m := 0) (o := 0) (by omega)]
      rw [e, ← key 0 0 (by omega) (by omega) (by omega) (by omega), mname_out hm, mname_out (m := 0) (by omega), oname_out ho, oname_out (o := 0) (by omega)]
theorem sgn_hit {t k : Bs} (h : t = k) {z : List Int × Int × Bool × Bool} (e : sgnT k = z) : sgnT t = z := by rw [h, e]
theorem mname_len (m : Int) : (mnameS m).length ≤ 5 := by
  by_cases hm : 1 ≤ m ∧ m ≤ 10
  · have hc : ((List.range 11).all fun k => decide ((mnameS (k : Int)).length ≤ 5)) = true := by decide +kernel
    have := List.all_eq_true.1 hc m.toNat (List.mem_range.2 (by omega))
    rw [decide_eq_true_eq, show ((m.toNat : Nat) : Int) = m by omega] at this
    exact this
  · rw [mname_out hm]; decide
theorem oname_len (o : Int) : (onameS o).length ≤ 5 := by
  by_cases ho : 1 ≤ o ∧ o ≤ 13
  · have hc : ((List.range 14).all fun k => decide ((onameS (k : Int)).length ≤ 5)) = true := by decide +kernel
    have := List.all_eq_true.1 hc o.toNat (List.mem_range.2 (by omega))
    rw [decide_eq_true_eq, show ((o.toNat : Nat) : Int) = o by omega] at this
    exact this
  · rw [oname_out ho]; decide
def nameB (v : Val) : Bool := rightV v && (decide (v.k = 1) || decide (v.k = 2))
def nameE (s : Bs) : Int := if ((parseV s).2 = 0 ∧ nameB (parseV s).1 = false) then 2 else (parseV s).2
/-! The readings of the two: word by word. -/
theorem nextS_stuck {l : List Bs} {e : Int} (h : ¬ e = 0) : nextS l e = ([], l, e) := by
  unfold nextS faultS
  by_cases hl : l = []
  · simp [hl, h]
  · simp [hl, h]
theorem nextS_cons (a : Bs) (r : List Bs) : nextS (a :: r) 0 = (a, r, 0) := rfl
theorem nextS_nil : nextS [] 0 = ([], [], 2) := rfl
theorem valueS_stuck {d : Int} {l : List Bs} {e : Int} (h : ¬ e = 0) : valueS d l e = (⟨0, 0, []⟩, l, e) := by
  unfold valueS; rw [nextS_stuck h]; exact if_neg h
theorem valueS_nil (d : Int) : valueS d [] 0 = (⟨0, 0, []⟩, [], 2) := rfl
theorem valueS_cons (d : Int) (a : Bs) (r : List Bs) : valueS d (a :: r) 0 = ((parseV a).1, r, if (parseV a).2 = 0 ∧ 0 ≤ d ∧ takesB d (parseV a).1 = false then 2 else (parseV a).2) := by
  unfold valueS
  rw [nextS_cons]
  dsimp only
  rw [if_pos rfl]
  by_cases h : (parseV a).2 = 0
  · by_cases h2 : 0 ≤ d
    · cases h3 : takesB d (parseV a).1 with
      | true => simp [faultS, h, h2, h3]
      | false => simp [faultS, h, h2, h3]
    · simp [faultS, h, h2]
  · simp [faultS, h]
theorem numberS_stuck {tab : Bs → Int × Bool} (ht : tab [] = (0, false)) {l : List Bs} {e : Int} (h : ¬ e = 0) : numberS tab l e = (0, l, e) := by
  unfold numberS; rw [nextS_stuck h, ht]; simp [faultS, h]
theorem numberS_nil {tab : Bs → Int × Bool} (ht : tab [] = (0, false)) : numberS tab [] 0 = (0, [], 2) := by
  unfold numberS; rw [nextS_nil, ht]; rfl
theorem numberS_cons {tab : Bs → Int × Bool} (a : Bs) (r : List Bs) : numberS tab (a :: r) 0 = ((tab a).1, r, if (tab a).2 = true then 0 else 2) := by
  unfold numberS; rw [nextS_cons]; cases h : (tab a).2 <;> simp [faultS, h]
theorem argsL_stuck : ∀ {ds : List Int} {l : List Bs} {e : Int}, ¬ e = 0 → (argsL ds l e).2 = (l, e)
  | [], l, e, _ => rfl
  | d :: r, l, e, h => by
    show (argsL r (valueS d l e).2.1 (valueS d l e).2.2).2 = _
    rw [valueS_stuck h]
    exact argsL_stuck h
theorem tab_m : modelS [] = (0, false) := by decide
theorem tab_o : opS [] = (0, false) := by decide
theorem tab_t : typedS [] = (0, false) := by decide
theorem faultS_stuck {e : Int} (h : ¬ e = 0) : faultS e 2 = e := if_neg h
theorem faultS_zero : faultS 0 2 = 2 := rfl
theorem invS_stuck {l : List Bs} {e : Int} (h : ¬ e = 0) : (invS l e).2.2.2.2 = (l, e) := by
  unfold invS
  dsimp only
  rw [numberS_stuck tab_m h]
  dsimp only
  rw [valueS_stuck h]
  dsimp only
  rw [numberS_stuck tab_o h]
  dsimp only
  have h2 : (if (!(argsD 0 0).2) = true then faultS e 2 else e) = e := by split; exact faultS_stuck h; rfl
  rw [h2]
  exact argsL_stuck h
/-- The code of what is called. -/
def invF (l : List Bs) : Int := if 0 < (invS l 0).2.2.2.2.1.length then faultS (invS l 0).2.2.2.2.2 2 else (invS l 0).2.2.2.2.2
theorem invF_of {l r : List Bs} {e : Int} (h : ¬ e = 0) (hs : (invS l 0).2.2.2.2 = (r, e)) : invF l = e := by
  unfold invF
  rw [hs]
  dsimp only
  split
  · exact faultS_stuck h
  · rfl
theorem drop_at {l : List Bs} {i : Nat} {x : Bs} (h : l[i]? = some x) : l.drop i = x :: l.drop (i + 1) := by
  obtain ⟨hl, e⟩ := List.getElem?_eq_some_iff.1 h
  rw [List.drop_eq_getElem_cons hl, e]
theorem drop_end {l : List Bs} {i : Nat} (h : l.length ≤ i) : l.drop i = [] := List.drop_of_length_le h
theorem at_of {l : List Bs} {i : Int} {k : Nat} {h : i.toNat < l.length} {x : Bs} (e : l[i.toNat] = x) (hi : i = (k : Int)) : l[k]? = some x := by
  subst hi
  rw [← e]
  exact (List.getElem?_eq_getElem h)
theorem modelS_zero {w : Bs} : (modelS w).2 = !decide ((modelS w).1 = 0) := by
  unfold modelS
  have : ∀ (ws : List Bs) (k : Int), 0 ≤ k → (idxW ws k w).2 = !decide ((idxW ws k w).1 = 0) := by
    intro ws
    induction ws with
    | nil => intro k _; rfl
    | cons x r ih =>
      intro k hk
      unfold idxW
      split
      · rename_i h
        simp only [Bool.and_eq_true, decide_eq_true_eq] at h
        have : ¬ k = 0 := by omega
        simp [this]
      · exact ih (k + 1) (by omega)
  exact this _ 0 (by decide)
theorem opS_zero {w : Bs} : (opS w).2 = !decide ((opS w).1 = 0) := by
  unfold opS
  have : ∀ (ws : List Bs) (k : Int), 0 ≤ k → (idxW ws k w).2 = !decide ((idxW ws k w).1 = 0) := by
    intro ws
    induction ws with
    | nil => intro k _; rfl
    | cons x r ih =>
      intro k hk
      unfold idxW
      split
      · rename_i h
        simp only [Bool.and_eq_true, decide_eq_true_eq] at h
        have : ¬ k = 0 := by omega
        simp [this]
      · exact ih (k + 1) (by omega)
  exact this _ 0 (by decide)
theorem takes_name {v : Val} {d : Int} (h : 0 ≤ d ∧ d ≤ 4) : takesB d v = nameB v := by
  unfold takesB nameB
  cases hr : rightV v with
  | false => simp
  | true => rw [if_neg (by decide), if_pos (by omega)]; simp
theorem value_name {a : Bs} (r : List Bs) {d : Int} (h : 0 ≤ d ∧ d ≤ 4) : valueS d (a :: r) 0 = ((parseV a).1, r, nameE a) := by
  rw [valueS_cons, takes_name h]
  unfold nameE
  by_cases h2 : (parseV a).2 = 0 ∧ nameB (parseV a).1 = false
  · rw [if_pos ⟨h2.1, h.1, h2.2⟩, if_pos h2]
  · rw [if_neg (fun x => h2 ⟨x.1, x.2.2⟩), if_neg h2]
theorem doms_nn {s : Bs} {i : Nat} (h : i < (doms s).length) : 0 ≤ (doms s)[i] := by
  have e : (doms s)[i] = domS ((s[i]'(by simpa [doms] using h)).toNat : Int) := by simp [doms]
  rw [e]
  unfold domS
  repeat (first | split | decide)
section
variable {l : List Bs} {a k o : Bs}
theorem inv_0 (h : l.length ≤ 3) : invF (l.drop 3) = 2 := by
  rw [drop_end h]
  refine invF_of (e := 2) (r := []) (by decide) ?_
  unfold invS; dsimp only
  rw [numberS_nil tab_m]; dsimp only
  rw [valueS_stuck (by decide)]; dsimp only
  rw [numberS_stuck tab_o (by decide)]; dsimp only
  have h2 : (if (!(argsD 0 0).2) = true then faultS 2 2 else 2) = 2 := by split <;> rfl
  rw [h2]; exact argsL_stuck (by decide)
theorem inv_m (h3 : l[3]? = some a) (hm : (modelS a).1 = 0) : invF (l.drop 3) = 2 := by
  rw [drop_at h3]
  refine invF_of (e := 2) (r := l.drop 4) (by decide) ?_
  have h : (modelS a).2 = false := by rw [modelS_zero, hm]; rfl
  unfold invS; dsimp only
  rw [numberS_cons, if_neg (by rw [h]; decide)]; dsimp only
  rw [valueS_stuck (by decide)]; dsimp only
  rw [numberS_stuck tab_o (by decide)]; dsimp only
  have h2 : (if (!(argsD (modelS a).1 0).2) = true then faultS 2 2 else 2) = 2 := by split <;> rfl
  rw [h2]; exact argsL_stuck (by decide)
variable (h3 : l[3]? = some a) (hm : ¬ (modelS a).1 = 0)
include h3 hm
theorem inv_1 (h4 : l.length ≤ 4) : invF (l.drop 3) = 2 := by
  rw [drop_at h3, drop_end h4]
  refine invF_of (e := 2) (r := []) (by decide) ?_
  have h : (modelS a).2 = true := by rw [modelS_zero]; simpa using hm
  unfold invS; dsimp only
  rw [numberS_cons, if_pos h]; dsimp only
  rw [valueS_nil]; dsimp only
  rw [numberS_stuck tab_o (by decide)]; dsimp only
  have h2 : (if (!(argsD (modelS a).1 0).2) = true then faultS 2 2 else 2) = 2 := by split <;> rfl
  rw [h2]; exact argsL_stuck (by decide)
theorem inv_k (h4 : l[4]? = some k) (hk : ¬ nameE k = 0) : invF (l.drop 3) = nameE k := by
  rw [drop_at h3, drop_at h4]
  refine invF_of (e := nameE k) (r := l.drop 5) hk ?_
  have h : (modelS a).2 = true := by rw [modelS_zero]; simpa using hm
  unfold invS; dsimp only
  rw [numberS_cons, if_pos h]; dsimp only
  rw [value_name _ (by decide)]; dsimp only
  rw [numberS_stuck tab_o hk]; dsimp only
  have h2 : (if (!(argsD (modelS a).1 0).2) = true then faultS (nameE k) 2 else nameE k) = nameE k := by split; exact faultS_stuck hk; rfl
  rw [h2]; exact argsL_stuck hk
variable (h4 : l[4]? = some k) (hk : nameE k = 0)
include h4 hk
theorem inv_2 (h5 : l.length ≤ 5) : invF (l.drop 3) = 2 := by
  rw [drop_at h3, drop_at h4, drop_end h5]
  refine invF_of (e := 2) (r := []) (by decide) ?_
  have h : (modelS a).2 = true := by rw [modelS_zero]; simpa using hm
  unfold invS; dsimp only
  rw [numberS_cons, if_pos h]; dsimp only
  rw [value_name _ (by decide), hk]; dsimp only
  rw [numberS_nil tab_o]; dsimp only
  have h2 : (if (!(argsD (modelS a).1 0).2) = true then faultS 2 2 else 2) = 2 := by split <;> rfl
  rw [h2]; exact argsL_stuck (by decide)
theorem inv_at (h5 : l[5]? = some o) : invS (l.drop 3) 0 = ((modelS a).1, (parseV k).1, (opS o).1, argsL (argsD (modelS a).1 (opS o).1).1 (l.drop 6) (if (findS (modelS a).1 (opS o).1).2 = true then 0 else 2)) := by
  rw [drop_at h3, drop_at h4, drop_at h5]
  have h : (modelS a).2 = true := by rw [modelS_zero]; simpa using hm
  unfold invS; dsimp only
  rw [numberS_cons, if_pos h]; dsimp only
  rw [value_name _ (by decide), hk]; dsimp only
  rw [numberS_cons]; dsimp only
  have e : (if (!(argsD (modelS a).1 (opS o).1).2) = true then faultS (if (opS o).2 = true then 0 else 2) 2 else (if (opS o).2 = true then 0 else 2)) = (if (findS (modelS a).1 (opS o).1).2 = true then 0 else 2) := by
    unfold argsD
    cases hf : (findS (modelS a).1 (opS o).1).2 with
    | true =>
      have ho : (opS o).2 = true := by
        rw [opS_zero]
        simp only [Bool.not_eq_true', decide_eq_false_iff_not]
        intro e0
        rw [find_out (by omega)] at hf
        cases hf
      simp [ho]
    | false => cases (opS o).2 <;> simp [faultS]
  rw [e]
theorem inv_o (h5 : l[5]? = some o) (ho : (findS (modelS a).1 (opS o).1).2 = false) : invF (l.drop 3) = 2 := by
  refine invF_of (e := 2) (r := l.drop 6) (by decide) ?_
  rw [inv_at h3 hm h4 hk h5, if_neg (by rw [ho]; decide)]
  exact argsL_stuck (by decide)
variable (h5 : l[5]? = some o) (ho : (findS (modelS a).1 (opS o).1).2 = true)
include h5 ho
theorem inv_args : invS (l.drop 3) 0 = ((modelS a).1, (parseV k).1, (opS o).1, argsL (doms (findS (modelS a).1 (opS o).1).1.ins) (l.drop 6) 0) := by
  rw [inv_at h3 hm h4 hk h5, if_pos ho]
  unfold argsD
  rw [if_pos ho]
variable {i : Nat} {xs : List Val} {ds : List Int} (hd : ds = doms (findS (modelS a).1 (opS o).1).1.ins) (ha : argsL ds (l.drop 6) 0 = (xs ++ (argsL (ds.drop i) (l.drop (6 + i)) 0).1, (argsL (ds.drop i) (l.drop (6 + i)) 0).2))
include hd ha
theorem inv_e1 (hi : i < ds.length) (h6 : l.length ≤ 6 + i) : invF (l.drop 3) = 2 := by
  refine invF_of (e := 2) (r := []) (by decide) ?_
  rw [inv_args h3 hm h4 hk h5 ho, ← hd, ha, List.drop_eq_getElem_cons hi, drop_end h6]
  show (argsL (ds.drop (i + 1)) (valueS ds[i] [] 0).2.1 (valueS ds[i] [] 0).2.2).2 = _
  rw [valueS_nil]
  exact argsL_stuck (by decide)
theorem inv_e2 (hi : i < ds.length) {v : Bs} (h6 : l[6 + i]? = some v) (hv : ¬ (parseV v).2 = 0) : invF (l.drop 3) = (parseV v).2 := by
  refine invF_of (e := (parseV v).2) (r := l.drop (6 + i + 1)) hv ?_
  rw [inv_args h3 hm h4 hk h5 ho, ← hd, ha, List.drop_eq_getElem_cons hi, drop_at h6]
  show (argsL (ds.drop (i + 1)) (valueS ds[i] (v :: l.drop (6 + i + 1)) 0).2.1 (valueS ds[i] (v :: l.drop (6 + i + 1)) 0).2.2).2 = _
  rw [valueS_cons, if_neg (fun h => hv h.1)]
  exact argsL_stuck hv
theorem inv_e3 (hi : i < ds.length) {v : Bs} (h6 : l[6 + i]? = some v) (hv : (parseV v).2 = 0) {d : Int} (hdi : ds[i] = d) (ht : takesB d (parseV v).1 = false) : invF (l.drop 3) = 2 := by
  have hn : 0 ≤ d := by subst hdi; subst hd; exact doms_nn hi
  refine invF_of (e := 2) (r := l.drop (6 + i + 1)) (by decide) ?_
  rw [inv_args h3 hm h4 hk h5 ho, ← hd, ha, List.drop_eq_getElem_cons hi, drop_at h6]
  show (argsL (ds.drop (i + 1)) (valueS ds[i] (v :: l.drop (6 + i + 1)) 0).2.1 (valueS ds[i] (v :: l.drop (6 + i + 1)) 0).2.2).2 = _
  rw [valueS_cons, if_pos ⟨hv, by rw [hdi]; exact hn, by rw [hdi]; exact ht⟩]
  exact argsL_stuck (e := 2) (by decide)
omit h3 hm h4 hk h5 ho hd in
theorem inv_next (hi : i < ds.length) {v : Bs} (h6 : l[6 + i]? = some v) (hv : (parseV v).2 = 0) {d : Int} (hdi : ds[i] = d) (ht : takesB d (parseV v).1 = true) : argsL ds (l.drop 6) 0 = ((xs ++ [(parseV v).1]) ++ (argsL (ds.drop (i + 1)) (l.drop (6 + (i + 1))) 0).1, (argsL (ds.drop (i + 1)) (l.drop (6 + (i + 1))) 0).2) := by
  rw [ha, List.drop_eq_getElem_cons hi, drop_at h6]
  show (xs ++ ((valueS ds[i] (v :: l.drop (6 + i + 1)) 0).1 :: (argsL (ds.drop (i + 1)) (valueS ds[i] (v :: l.drop (6 + i + 1)) 0).2.1 (valueS ds[i] (v :: l.drop (6 + i + 1)) 0).2.2).1), (argsL (ds.drop (i + 1)) (valueS ds[i] (v :: l.drop (6 + i + 1)) 0).2.1 (valueS ds[i] (v :: l.drop (6 + i + 1)) 0).2.2).2) = _
  rw [valueS_cons, if_neg (by rw [hdi, ht]; simp), hv, List.append_assoc]
  rfl
theorem inv_done (hi : ds.length ≤ i) : invS (l.drop 3) 0 = ((modelS a).1, (parseV k).1, (opS o).1, xs, l.drop (6 + i), 0) := by
  rw [inv_args h3 hm h4 hk h5 ho, ← hd, ha, List.drop_of_length_le hi]
  simp [argsL]
end
/-- The event that is called. -/
def invE (l : List Bs) : Evt := ⟨0, ⟨0, 0, []⟩, 0, (invS l 0).1, (invS l 0).2.1, (invS l 0).2.2.1, (invS l 0).2.2.2.1, [], false, []⟩
/-! A whole line. -/
section
variable {l : List Bs} {a c t : Bs}
def C9 (a : Bs) : Except Int Int := countS a 9223372036854775807
theorem all_t (h0 : l[0]? = some a) (he : ¬ erv (C9 a) = 0) : (allS l).2.2 = erv (C9 a) := by
  have hl : l = a :: l.drop 1 := by have := drop_at h0; simpa using this
  have e1 : nextS l 0 = (a, l.drop 1, 0) := by rw [hl]; exact nextS_cons _ _
  unfold allS; dsimp only
  rw [e1]; dsimp only
  rw [show faultS 0 (erv (countS a 9223372036854775807)) = erv (C9 a) from rfl, valueS_stuck he]; dsimp only
  rw [numberS_stuck tab_t he]; dsimp only
  rw [if_neg (show ¬ (0 : Int) = 1 by decide), if_neg (show ¬ (0 : Int) = 2 by decide)]; dsimp only
  split
  · exact faultS_stuck he
  · rfl
variable (h0 : l[0]? = some a) (he : erv (C9 a) = 0)
include h0 he
theorem all_1 (h1 : l.length ≤ 1) : (allS l).2.2 = 2 := by
  have hl : l = [a] := by have := drop_at h0; rw [List.drop_zero, drop_end h1] at this; exact this
  have e1 : nextS l 0 = (a, [], 0) := by rw [hl]; exact nextS_cons _ _
  unfold allS; dsimp only
  rw [e1]; dsimp only
  rw [show faultS 0 (erv (countS a 9223372036854775807)) = 0 from he, valueS_nil]; dsimp only
  rw [numberS_stuck tab_t (by decide)]; dsimp only
  rfl
theorem all_c (h1 : l[1]? = some c) (hc : ¬ nameE c = 0) : (allS l).2.2 = nameE c := by
  have hl : l = a :: c :: l.drop 2 := by have := drop_at h0; rw [List.drop_zero, drop_at h1] at this; exact this
  have e1 : nextS l 0 = (a, c :: l.drop 2, 0) := by rw [hl]; exact nextS_cons _ _
  unfold allS; dsimp only
  rw [e1]; dsimp only
  rw [show faultS 0 (erv (countS a 9223372036854775807)) = 0 from he, value_name _ (by decide)]; dsimp only
  rw [numberS_stuck tab_t hc]; dsimp only
  rw [if_neg (show ¬ (0 : Int) = 1 by decide), if_neg (show ¬ (0 : Int) = 2 by decide)]; dsimp only
  split
  · exact faultS_stuck hc
  · rfl
variable (h1 : l[1]? = some c) (hc : nameE c = 0)
include h1 hc
theorem all_2 (h2 : l.length ≤ 2) : (allS l).2.2 = 2 := by
  have hl : l = [a, c] := by have := drop_at h0; rw [List.drop_zero, drop_at h1, drop_end h2] at this; exact this
  have e1 : nextS l 0 = (a, [c], 0) := by rw [hl]; exact nextS_cons _ _
  unfold allS; dsimp only
  rw [e1]; dsimp only
  rw [show faultS 0 (erv (countS a 9223372036854775807)) = 0 from he, value_name _ (by decide), hc]; dsimp only
  rw [numberS_nil tab_t]; dsimp only
  rfl
variable (h2 : l[2]? = some t)
include h2
theorem all_at : allS l =
    (let z3 : Int × List Bs × Int := ((typedS t).1, l.drop 3, if (typedS t).2 = true then 0 else 2)
     let q : Evt × List Bs × Int := if z3.1 = 1 then (⟨okv (C9 a), (parseV c).1, z3.1, (invS z3.2.1 z3.2.2).1, (invS z3.2.1 z3.2.2).2.1, (invS z3.2.1 z3.2.2).2.2.1, (invS z3.2.1 z3.2.2).2.2.2.1, [], false, []⟩, (invS z3.2.1 z3.2.2).2.2.2.2)
       else if z3.1 = 2 then (⟨okv (C9 a), (parseV c).1, z3.1, 0, ⟨0, 0, []⟩, 0, [], (outL z3.2.1 z3.2.2).1, false, []⟩, (outL z3.2.1 z3.2.2).2)
       else (⟨okv (C9 a), (parseV c).1, z3.1, 0, ⟨0, 0, []⟩, 0, [], [], false, []⟩, z3.2)
     (q.1, q.2.1, if 0 < q.2.1.length then faultS q.2.2 2 else q.2.2)) := by
  have hl : l = a :: c :: t :: l.drop 3 := by have := drop_at h0; rw [List.drop_zero, drop_at h1, drop_at h2] at this; exact this
  have e1 : nextS l 0 = (a, c :: t :: l.drop 3, 0) := by rw [hl]; exact nextS_cons _ _
  unfold allS; dsimp only
  rw [e1]; dsimp only
  rw [show faultS 0 (erv (countS a 9223372036854775807)) = 0 from he, value_name _ (by decide), hc]; dsimp only
  rw [numberS_cons]
  rfl
theorem all_inv (ht : t = [105, 110, 118, 111, 107, 101]) : (allS l).2.2 = invF (l.drop 3) ∧ (allS l).1 = { invE (l.drop 3) with time := okv (C9 a), client := (parseV c).1, type := 1 } := by
  rw [all_at h0 he h1 hc h2, ht]
  exact ⟨rfl, rfl⟩
theorem all_ok (ht : t = [111, 107]) : (allS l).2.2 = (if 0 < (outL (l.drop 3) 0).2.1.length then faultS (outL (l.drop 3) 0).2.2 2 else (outL (l.drop 3) 0).2.2) ∧ (allS l).1 = ⟨okv (C9 a), (parseV c).1, 2, 0, ⟨0, 0, []⟩, 0, [], (outL (l.drop 3) 0).1, false, []⟩ := by
  rw [all_at h0 he h1 hc h2, ht]
  exact ⟨rfl, rfl⟩
theorem all_fail (ht : t = [102, 97, 105, 108]) : (allS l).2.2 = (if 3 < l.length then 2 else 0) ∧ (allS l).1 = ⟨okv (C9 a), (parseV c).1, 3, 0, ⟨0, 0, []⟩, 0, [], [], false, []⟩ := by
  rw [all_at h0 he h1 hc h2, ht]
  refine ⟨?_, rfl⟩
  show (if 0 < (l.drop 3).length then faultS 0 2 else 0) = _
  rw [List.length_drop]
  by_cases h : 3 < l.length
  · rw [if_pos (by omega), if_pos h]; rfl
  · rw [if_neg (by omega), if_neg h]
theorem all_info (ht : t = [105, 110, 102, 111]) : (allS l).2.2 = (if 3 < l.length then 2 else 0) ∧ (allS l).1 = ⟨okv (C9 a), (parseV c).1, 4, 0, ⟨0, 0, []⟩, 0, [], [], false, []⟩ := by
  rw [all_at h0 he h1 hc h2, ht]
  refine ⟨?_, rfl⟩
  show (if 0 < (l.drop 3).length then faultS 0 2 else 0) = _
  rw [List.length_drop]
  by_cases h : 3 < l.length
  · rw [if_pos (by omega), if_pos h]; rfl
  · rw [if_neg (by omega), if_neg h]
theorem all_no (n1 : ¬ t = [105, 110, 118, 111, 107, 101]) (n2 : ¬ t = [111, 107]) (n3 : ¬ t = [102, 97, 105, 108]) (n4 : ¬ t = [105, 110, 102, 111]) : (allS l).2.2 = 2 := by
  rw [all_at h0 he h1 hc h2]
  have e : typedS t = (0, false) := by
    unfold typedS
    rw [if_neg (by simpa using fun e => n1 e.symm), if_neg (by simpa using fun e => n2 e.symm), if_neg (by simpa using fun e => n3 e.symm), if_neg (by simpa using fun e => n4 e.symm)]
  rw [e]
  show (if 0 < (l.drop 3).length then faultS 2 2 else 2) = 2
  split <;> rfl
end
/-- What is behind `ok`, read one by one. -/
theorem outL_app {l : List Bs} {i : Nat} {x : Bs} {ys : List Val} (h : l[i]? = some x) (ho : outL (l.drop 3) 0 = (ys ++ (outL (l.drop i) 0).1, (outL (l.drop i) 0).2)) : outL (l.drop 3) 0 = ((ys ++ [(parseV x).1]) ++ (outL (l.drop (i + 1)) (parseV x).2).1, (outL (l.drop (i + 1)) (parseV x).2).2) := by
  rw [ho, drop_at h]
  show (ys ++ (if (0 : Int) = 0 then ((parseV x).1 :: (outL (l.drop (i + 1)) (parseV x).2).1, (outL (l.drop (i + 1)) (parseV x).2).2) else _).1, _) = _
  rw [if_pos rfl]
  simp [outL]
theorem outL_err {r : List Bs} {e : Int} (h : ¬ e = 0) : outL r e = ([], r, e) := outL_end (fun x => h x.1)
theorem words_pos {s : Bs} (h : (wordsS s).2 = 0) : 0 < (wordsS s).1.length := by
  unfold wordsS at h ⊢
  split
  · rename_i hm; rw [if_pos hm] at h; cases h
  · exact List.length_pos_iff.2 (splitS_ne _ _)
theorem parseE_bad {s : Bs} (h : ¬ (noteS s).2.2.2 = 0 ∨ ¬ (wordsS (noteS s).1).2 = 0) : parseE s = (E0, 2) := by
  unfold parseE
  rcases note_cases s with h1 | h1
  · rw [if_neg (by omega)]
    rcases words_two (noteS s).1 with h2 | h2
    · rcases h with h | h <;> omega
    · rw [h2]; rfl
  · rw [h1]; rfl
theorem parseE_all {s : Bs} (h1 : (noteS s).2.2.2 = 0) (h2 : (wordsS (noteS s).1).2 = 0) : parseE s = if ¬ (allS (wordsS (noteS s).1).1).2.2 = 0 then (E0, (allS (wordsS (noteS s).1).1).2.2) else ({ (allS (wordsS (noteS s).1).1).1 with noted := (noteS s).2.2.1, note := (noteS s).2.1 }, 0) := by
  unfold parseE
  rw [if_neg (by omega), if_neg (by omega)]
theorem parseE_err {s : Bs} {e : Int} (h1 : (noteS s).2.2.2 = 0) (h2 : (wordsS (noteS s).1).2 = 0) (h : (allS (wordsS (noteS s).1).1).2.2 = e) (he : ¬ e = 0) : parseE s = (E0, e) := by
  rw [parseE_all h1 h2, h, if_pos he]
theorem parseE_yes {s : Bs} {x : Evt} (h1 : (noteS s).2.2.2 = 0) (h2 : (wordsS (noteS s).1).2 = 0) (h : (allS (wordsS (noteS s).1).1).2.2 = 0) (hx : (allS (wordsS (noteS s).1).1).1 = x) : parseE s = ({ x with noted := (noteS s).2.2.1, note := (noteS s).2.1 }, 0) := by
  rw [parseE_all h1 h2, if_neg (by omega), hx]

theorem parseE_err' {s : Bs} {e : Int} (h1 : (noteS s).2.2.2 = 0) (h2 : (wordsS (noteS s).1).2 = 0) (h : (allS (wordsS (noteS s).1).1).2.2 = e) (he : ¬ e = 0) : parseE s = (E0, e) := parseE_err h1 h2 h he
theorem parseE_yes' {s : Bs} {x : Evt} (h1 : (noteS s).2.2.2 = 0) (h2 : (wordsS (noteS s).1).2 = 0) (h : (allS (wordsS (noteS s).1).1).2.2 = 0) (hx : (allS (wordsS (noteS s).1).1).1 = x) : parseE s = ({ x with noted := (noteS s).2.2.1, note := (noteS s).2.1 }, 0) := parseE_yes h1 h2 h hx
theorem getD_at {l : List Bs} {i : Nat} (h : i < l.length) : l[i]? = some (l.getD i []) := by
  rw [List.getD_eq_getElem?_getD, List.getElem?_eq_getElem h]; rfl
theorem getD_mem {l : List Bs} {i : Nat} (h : i < l.length) : l.getD i [] ∈ l := List.mem_of_getElem? (getD_at h)
theorem getD_int {l : List Int} {i : Nat} (h : i < l.length) : l[i] = l.getD i 0 := by
  rw [List.getD_eq_getElem?_getD, List.getElem?_eq_getElem h]; rfl
theorem same_val (a b : Val) : (decide (a.k = b.k) && (decide (a.n = b.n) && (a.s == b.s && true))) = decide (a = b) := by
  rw [Bool.eq_iff_iff]
  simp only [Bool.and_eq_true, decide_eq_true_eq, beq_iff_eq, and_true]
  obtain ⟨k, n, s⟩ := a
  obtain ⟨k', n', s'⟩ := b
  simp [Val.mk.injEq]

theorem val_eq {a b : Val} (h : (decide (a.k = b.k) && (decide (a.n = b.n) && (a.s == b.s && true))) = true) : a = b := by
  obtain ⟨k, n, s⟩ := a
  obtain ⟨k', n', s'⟩ := b
  simp at h
  obtain ⟨rfl, rfl, rfl⟩ := h
  rfl
theorem val_ne {a b : Val} (h : (decide (a.k = b.k) && (decide (a.n = b.n) && (a.s == b.s && true))) = false) : ¬ a = b := by
  rintro rfl
  simp at h
theorem take_snoc_eq7 {α : Type} {a b : List α} {i : Nat} (h : a.take i = b.take i) (ha : i < a.length) (hb : i < b.length) (e : a[i] = b[i]) : a.take (i + 1) = b.take (i + 1) := by
  rw [List.take_add_one, List.take_add_one, h, List.getElem?_eq_getElem ha, List.getElem?_eq_getElem hb, e]
theorem argsL_len : ∀ (ds : List Int) (l : List Bs) (e : Int), (argsL ds l e).1.length = ds.length
  | [], _, _ => rfl
  | d :: r, l, e => by
    show ((valueS d l e).1 :: _).length = _
    rw [List.length_cons, argsL_len r]; rfl
theorem outL_len : ∀ (l : List Bs) (e : Int), (outL l e).1.length ≤ l.length
  | [], _ => Nat.le_refl _
  | x :: r, e => by
    unfold outL
    split
    · have := outL_len r (parseV x).2
      simpa using this
    · exact Nat.zero_le _
theorem nextS_len (l : List Bs) (e : Int) : (nextS l e).2.1.length ≤ l.length := by
  unfold nextS
  by_cases hc : (if l = [] then faultS e 2 else e) = 0
  · rw [if_pos hc]; show (l.drop 1).length ≤ _; simp
  · rw [if_neg hc]; exact Nat.le_refl _
theorem allS_len (l : List Bs) : (allS l).1.args.length ≤ 2 ∧ (allS l).1.out.length ≤ l.length := by
  unfold allS
  dsimp only
  split
  · refine ⟨?_, Nat.zero_le _⟩
    show (invS _ _).2.2.2.1.length ≤ 2
    unfold invS; dsimp only
    rw [argsL_len]
    exact args_len _ _
  · split
    · refine ⟨Nat.zero_le _, ?_⟩
      show (outL _ _).1.length ≤ _
      refine Nat.le_trans (outL_len _ _) ?_
      show (nextS _ _).2.1.length ≤ _
      refine Nat.le_trans (nextS_len _ _) ?_
      rw [value_left]
      exact Nat.le_trans (nextS_len _ _) (nextS_len _ _)
    · exact ⟨Nat.zero_le _, Nat.zero_le _⟩
theorem parseE_len (s : Bs) : (parseE s).1.args.length ≤ 2 ∧ (parseE s).1.out.length ≤ s.length + 1 := by
  have h := allS_len (wordsS (noteS s).1).1
  have h1 := wordsS_len (noteS s).1
  have h2 := note_len s
  unfold parseE
  split
  · exact ⟨Nat.zero_le _, Nat.zero_le _⟩
  split
  · exact ⟨Nat.zero_le _, Nat.zero_le _⟩
  split
  · exact ⟨Nat.zero_le _, Nat.zero_le _⟩
  · exact ⟨h.1, by show (allS _).1.out.length ≤ _; omega⟩
theorem parse_args {s : Bs} (h : s.length ≤ 9223372036854775806) : (parseE s).1.args.length ≤ 9223372036854775807 := by have := parseE_len s; omega
theorem parse_out {s : Bs} (h : s.length ≤ 9223372036854775806) : (parseE s).1.out.length ≤ 9223372036854775807 := by have := parseE_len s; omega
theorem note_behind {s nt : Bs} (h1 : ∀ j (hj : j < s.length), ¬ s[j] = 59) (h2 : ∀ j (hj : j < nt.length), ¬ nt[j] = 10) (h3 : nt.length ≤ 100) : noteS (s ++ [32, 59] ++ nt) = (s, nt, true, 0) := by
  have e : s ++ [32, 59] ++ nt = s ++ 32 :: 59 :: nt := by simp
  rw [e]
  have hlen : (s ++ 32 :: 59 :: nt).length = s.length + 2 + nt.length := by simp; omega
  have at0 : (s ++ 32 :: 59 :: nt)[s.length + 1]'(by omega) = 59 := by
    rw [List.getElem_append_right (by omega)]; simp
  rw [note_at (i := s.length + 1) (by omega) at0]
  · have e1 : (((s.length + 1 : Nat) : Int) + 1).toNat = s.length + 2 := by omega
    have e2 : (((s.length + 1 : Nat) : Int) - 1).toNat = s.length := by omega
    have e3 : (s ++ 32 :: 59 :: nt).drop (s.length + 2) = nt := by
      rw [List.drop_append]
      simp
    have e4 : (s ++ 32 :: 59 :: nt).take s.length = s := by simp
    have e5 : bt (s ++ 32 :: 59 :: nt) (((s.length + 1 : Nat) : Int) - 1) = 32 := by
      rw [show ((s.length + 1 : Nat) : Int) - 1 = ((s.length : Nat) : Int) by omega, bt_nat (by omega), List.getElem_append_right (by omega)]
      simp
    rw [e1, e2, e3, e4, e5, if_neg]
    have e6 : Lib.indexByte nt 10 = -1 := idx_none h2
    rw [e6]
    rintro ((h | h) | h | h)
    · omega
    · exact h rfl
    · omega
    · omega
  · intro j hj
    by_cases hjs : j < s.length
    · rw [List.getElem_append_left hjs]; exact h1 j hjs
    · obtain rfl : j = s.length := by omega
      rw [List.getElem_append_right (by omega)]
      simp
theorem notes_law {s nt : Bs} (h1 : ∀ j (hj : j < s.length), ¬ s[j] = 59) (h2 : ∀ j (hj : j < nt.length), ¬ nt[j] = 10) (h3 : nt.length ≤ 100) :
    (parseE (s ++ [32, 59] ++ nt)).2 = (parseE s).2 ∧ ((parseE s).2 = 0 → ({ (parseE s).1 with noted := false, note := [] } : Evt) = { (parseE (s ++ [32, 59] ++ nt)).1 with noted := false, note := [] }) := by
  have e1 := note_behind h1 h2 h3
  have e2 : noteS s = (s, [], false, 0) := note_none (i := s.length) (Nat.le_refl _) h1
  unfold parseE
  rw [e1, e2]
  dsimp only
  simp only [not_true, if_false]
  split
  · exact ⟨rfl, fun h => rfl⟩
  · split
    · exact ⟨rfl, fun h => rfl⟩
    · exact ⟨rfl, fun h => rfl⟩

/-- The code of a line at its place. -/
def codeH (s : Bs) (i : Int) : Int := if i = 4096 then 5 else (parseE s).2
/-- The events of lines, one by one, or the first fault and its line. -/
def histG : List Bs → Int → List Evt → List Evt × Int × Int
  | [], _, acc => (acc, 0, 0)
  | s :: r, i, acc => if codeH s i = 0 then histG r (i + 1) (acc ++ [(parseE s).1]) else ([], codeH s i, i + 1)
def histP (t : Bs) : List Evt × Int × Int := if (linesS t).2 = 0 then histG (linesS t).1 0 [] else ([], 2, (linesS t).2)
theorem histG_hit {l : List Bs} {i : Nat} {x : Bs} {acc : List Evt} (h : l[i]? = some x) (hc : codeH x (i : Int) = 0) : histG (l.drop i) (i : Int) acc = histG (l.drop (i + 1)) ((i + 1 : Nat) : Int) (acc ++ [(parseE x).1]) := by
  rw [drop_at h]
  show (if codeH x (i : Int) = 0 then _ else _) = _
  rw [if_pos hc]
  rfl
theorem histG_bad {l : List Bs} {i : Nat} {x : Bs} {acc : List Evt} {c : Int} (h : l[i]? = some x) (hc : codeH x (i : Int) = c) (h0 : ¬ c = 0) : histG (l.drop i) (i : Int) acc = ([], c, (i : Int) + 1) := by
  rw [drop_at h]
  show (if codeH x (i : Int) = 0 then _ else ([], codeH x (i : Int), _)) = _
  rw [hc, if_neg h0]
theorem codeH_many {x : Bs} {i : Int} (h : i = 4096) : codeH x i = 5 := if_pos h
theorem codeH_few {x : Bs} {i : Int} (h : ¬ i = 4096) : codeH x i = (parseE x).2 := if_neg h
def EvSm (x : Evt) : Prop := x.args.length ≤ 9223372036854775807 ∧ x.out.length ≤ 9223372036854775807
theorem histG_sm : ∀ (l : List Bs) (i : Int) (acc : List Evt), (∀ x ∈ l, x.length ≤ 9223372036854775806) → (∀ e ∈ acc, EvSm e) → ∀ e ∈ (histG l i acc).1, EvSm e
  | [], _, _, _, ha => ha
  | s :: r, i, acc, hl, ha => by
    unfold histG
    split
    · refine histG_sm r _ _ (fun x hx => hl x (List.mem_cons_of_mem _ hx)) fun e he => ?_
      rcases List.mem_append.1 he with h | h
      · exact ha e h
      · rw [List.mem_singleton] at h; subst h
        exact ⟨parse_args (hl s List.mem_cons_self), parse_out (hl s List.mem_cons_self)⟩
    · intro e he; cases he
theorem histP_sm {t : Bs} (h : t.length ≤ 9223372036854775806) : ∀ e ∈ (histP t).1, EvSm e := by
  unfold histP
  split
  · exact histG_sm _ _ _ (fun x hx => by have := lines_mem hx; omega) (fun e he => by cases he)
  · intro e he; cases he
theorem histG_len : ∀ (l : List Bs) (i : Int) (acc : List Evt), (histG l i acc).1.length ≤ acc.length + l.length
  | [], _, acc => Nat.le_refl _
  | s :: r, i, acc => by
    unfold histG
    split
    · have := histG_len r (i + 1) (acc ++ [(parseE s).1])
      simp only [List.length_append, List.length_cons, List.length_nil] at this ⊢
      omega
    · exact Nat.zero_le _
theorem histP_len (t : Bs) : (histP t).1.length ≤ t.length := by
  unfold histP
  split
  · have h1 := histG_len (linesS t).1 0 []
    have h2 := linesS_len t
    simp only [List.length_nil, Nat.zero_add] at h1
    omega
  · exact Nat.zero_le _

def fitsL : List Int → List Val → Bool
  | [], [] => true
  | d :: ds, v :: vs => takesB d v && fitsL ds vs
  | _, _ => false
theorem fitsL_len : ∀ {ds : List Int} {l : List Val}, fitsL ds l = true → ds.length = l.length
  | [], [], _ => rfl
  | d :: ds, v :: vs, h => by
    rw [fitsL, Bool.and_eq_true] at h
    simp [fitsL_len h.2]
  | [], _ :: _, h => by cases h
  | _ :: _, [], h => by cases h
theorem fitsL_ne {ds : List Int} {l : List Val} (h : ¬ ds.length = l.length) : fitsL ds l = false := by
  cases e : fitsL ds l with
  | false => rfl
  | true => exact absurd (fitsL_len e) h
theorem fitsL_end {ds : List Int} {l : List Val} {i : Nat} (h : ds.length = l.length) (hi : ds.length ≤ i) : fitsL (ds.drop i) (l.drop i) = true := by
  rw [List.drop_eq_nil_of_le hi, List.drop_eq_nil_of_le (by omega)]; rfl
theorem fitsL_step {ds : List Int} {l : List Val} {i : Nat} (h : ds.length = l.length) (hi : i < ds.length) : fitsL (ds.drop i) (l.drop i) = (takesB (ds.getD ((i : Nat) : Int).toNat 0) (l.getD ((i : Nat) : Int).toNat ⟨0, 0, []⟩) && fitsL (ds.drop (i + 1)) (l.drop (i + 1))) := by
  rw [List.drop_eq_getElem_cons hi, List.drop_eq_getElem_cons (by omega : i < l.length), fitsL]
  simp [hi, (by omega : i < l.length)]
def notedB (e : Evt) : Bool := (decide ((e.note.length : Int) ≤ 100) && !decide (0 ≤ Lib.indexByte e.note 10)) && (e.noted || e.note == [])
def rightE (e : Evt) : Bool :=
  if ((decide (e.time < 0) || !takesB 0 e.client) || !notedB e) = true then false
  else if e.type = 1 then ((((argsD e.model e.op).2 && takesB 1 e.key) && fitsL (argsD e.model e.op).1 e.args) && decide ((e.out.length : Int) = 0))
  else if (((!decide (e.model = 0) || !decide (e.op = 0)) || !(decide (e.key.k = 0) && (decide (e.key.n = 0) && (e.key.s == [] && true)))) || decide (0 < (e.args.length : Int))) = true then false
  else e.out.all rightV && (decide (e.type = 2) || ((decide (e.type = 3) || decide (e.type = 4)) && decide ((e.out.length : Int) = 0)))
theorem all_drop {α : Type} {p : α → Bool} {l : List α} {i : Nat} {d : α} (hi : i < l.length) : (l.drop i).all p = (p (l.getD ((i : Nat) : Int).toNat d) && (l.drop (i + 1)).all p) := by
  rw [List.drop_eq_getElem_cons hi, List.all_cons]
  simp [hi]
theorem all_end {α : Type} {p : α → Bool} {l : List α} {i : Nat} (hi : l.length ≤ i) : (l.drop i).all p = true := by rw [List.drop_eq_nil_of_le hi]; rfl

theorem val_mem {l : List Val} {i : Nat} {d : Val} (h : i < l.length) : l.getD i d ∈ l := by
  rw [List.getD_eq_getElem?_getD, List.getElem?_eq_getElem h]
  exact List.getElem_mem h
theorem printV_len {v : Val} (h : I64 v.n) : (printV v).length ≤ 40 := by
  unfold printV
  split
  · decide
  rename_i hr
  split
  · decide
  split
  · have := Lib.itoa_length_le v.n h.1 h.2; omega
  split
  · rename_i h0 h1 h2
    have hr2 : rightV v = true := by simpa using hr
    unfold rightV at hr2
    rw [if_neg h0, if_neg h1, if_pos h2] at hr2
    simp only [isWordB, Bool.and_eq_true, decide_eq_true_eq] at hr2
    exact hr2.2.1.2
  split
  · decide
  · decide
def wordsE (e : Evt) : List Bs := ([Lib.itoa e.time, printV e.client, namedW.getD e.type.toNat []] ++ (if e.type = 1 then [mnameS e.model, printV e.key, onameS e.op] else [])) ++ (e.args.map printV ++ e.out.map printV)
def printE (e : Evt) : Bs := if rightE e = true then Lib.join (wordsE e) [32] ++ (if e.noted = true then [32, 59] ++ e.note else []) else []
theorem right_head {e : Evt} (h : rightE e = true) : ¬ e.time < 0 ∧ takesB 0 e.client = true ∧ notedB e = true := by
  unfold rightE at h
  split at h
  · cases h
  · rename_i h1
    simp only [Bool.or_eq_true, decide_eq_true_eq, Bool.not_eq_true', not_or, Bool.not_eq_false] at h1
    exact ⟨h1.1.1, h1.1.2, h1.2⟩
theorem right_inv {e : Evt} (h : rightE e = true) (ht : e.type = 1) : (argsD e.model e.op).2 = true ∧ takesB 1 e.key = true ∧ fitsL (argsD e.model e.op).1 e.args = true ∧ e.out = [] := by
  unfold rightE at h
  split at h
  · cases h
  · simp only [Bool.and_eq_true, decide_eq_true_eq] at h
    exact ⟨h.1.1.1, h.1.1.2, h.1.2, List.length_eq_zero_iff.1 (by omega)⟩
theorem right_end {e : Evt} (h : rightE e = true) (ht : ¬ e.type = 1) : e.model = 0 ∧ e.op = 0 ∧ e.key = ⟨0, 0, []⟩ ∧ e.args = [] ∧ e.out.all rightV = true ∧ (e.type = 2 ∨ (e.type = 3 ∨ e.type = 4) ∧ e.out = []) := by
  unfold rightE at h
  split at h
  · cases h
  · split at h
    · cases h
    · rename_i h2
      simp only [Bool.or_eq_true, Bool.not_eq_true', decide_eq_false_iff_not, decide_eq_true_eq, not_or, Bool.not_eq_false, Decidable.not_not, Bool.and_eq_true, beq_iff_eq, and_true] at h2
      simp only [Bool.and_eq_true, Bool.or_eq_true, decide_eq_true_eq] at h
      obtain ⟨⟨⟨h3, h4⟩, h5⟩, h6⟩ := h2
      refine ⟨h3, h4, ?_, List.length_eq_zero_iff.1 (by omega), h.1, h.2.imp id fun h7 => ⟨h7.1, List.length_eq_zero_iff.1 (by omega)⟩⟩
      cases hk : e.key
      rw [hk] at h5
      obtain ⟨rfl, rfl, rfl⟩ := h5
      rfl
theorem right_type {e : Evt} (h : rightE e = true) : 1 ≤ e.type ∧ e.type ≤ 4 := by
  by_cases ht : e.type = 1
  · omega
  · have := (right_end h ht).2.2.2.2.2
    omega
theorem right_args {e : Evt} (h : rightE e = true) : e.args.length ≤ 2 := by
  by_cases ht : e.type = 1
  · have := fitsL_len (right_inv h ht).2.2.1
    have := args_len e.model e.op
    omega
  · rw [(right_end h ht).2.2.2.1]; decide
theorem wd_at {ws : List Bs} {k : Nat} (h : k < ws.length) : (ws.map str)[k]? = some (str (ws.getD k [])) := by simp [h]
theorem named_len (k : Nat) : (namedW.getD k []).length ≤ 6 := by
  match k with
  | 0 => decide
  | 1 => decide
  | 2 => decide
  | 3 => decide
  | 4 => decide
  | n + 5 => simp [namedW]
theorem model_at {m : Int} (h1 : 1 ≤ m) (h2 : m < 11) : modelsW.getD m.toNat [] = mnameS m := by
  have hl : m.toNat < modelsW.length := by show _ < 11; omega
  have := mname_at (i := m.toNat) (h := hl) (by omega)
  rw [List.getD_eq_getElem?_getD, List.getElem?_eq_getElem hl, this, show ((m.toNat : Nat) : Int) = m by omega]
  rfl
theorem op_at {m : Int} (h1 : 1 ≤ m) (h2 : m < 14) : opsW.getD m.toNat [] = onameS m := by
  have hl : m.toNat < opsW.length := by show _ < 14; omega
  have := oname_at (i := m.toNat) (h := hl) (by omega)
  rw [List.getD_eq_getElem?_getD, List.getElem?_eq_getElem hl, this, show ((m.toNat : Nat) : Int) = m by omega]
  rfl
theorem words40 {e : Evt} (hw : e.Wf) : ∀ x ∈ wordsE e, x.length ≤ 40 := by
  intro x hx
  unfold wordsE at hx
  simp only [List.mem_append, List.mem_cons, List.not_mem_nil, or_false, List.mem_map] at hx
  rcases hx with ((rfl | rfl | rfl) | hx) | (⟨v, hv, rfl⟩ | ⟨v, hv, rfl⟩)
  · have := Lib.itoa_length_le e.time hw.time.1 hw.time.2; omega
  · exact printV_len hw.client.n
  · have := named_len e.type.toNat; omega
  · split at hx
    · simp only [List.mem_cons, List.not_mem_nil, or_false] at hx
      rcases hx with rfl | rfl | rfl
      · have := mname_len e.model; omega
      · exact printV_len hw.key.n
      · have := oname_len e.op; omega
    · cases hx
  · exact printV_len (hw.args v hv).n
  · exact printV_len (hw.out v hv).n
theorem wordsE_len {e : Evt} : (wordsE e).length ≤ 6 + e.args.length + e.out.length := by
  unfold wordsE
  split <;> simp <;> omega
theorem joinE_len {e : Evt} (hw : e.Wf) : (Lib.join (wordsE e) [32]).length ≤ (6 + e.args.length + e.out.length) * 41 := by
  have h1 := join_take_len 32 (wordsE e) 40 (words40 hw)
  have h2 := wordsE_len (e := e)
  have := Nat.mul_le_mul_right 41 h2
  omega
theorem map_take_step {l : List Val} {i : Nat} (h : i < l.length) : (l.take i).map printV ++ [printV (l.getD i ⟨0, 0, []⟩)] = (l.take (i + 1)).map printV := by
  rw [List.take_add_one, List.getElem?_eq_getElem h, List.map_append]
  simp [h]
theorem takes_right {d : Int} {v : Val} (h : takesB d v = true) : rightV v = true := by
  unfold takesB at h
  split at h
  · cases h
  · rename_i h2; simpa using h2

/-! What Great counts. -/
def W64 (n : Int) : Int := IntKind.i64.wrap n
theorem wr64 (n : Int) : I64 (IntKind.i64.wrap n) := by
  rw [IntKind.wrap_i64]
  exact ⟨by omega, by omega⟩
theorem wr_in {n : Int} (h : -9223372036854775808 ≤ n ∧ n ≤ 9223372036854775807) : IntKind.i64.wrap n = n := wrap_i64 h
def accG : Int → List Val → Int
  | n, [] => n
  | n, v :: vs => if n ≤ 2000 then accG (IntKind.i64.wrap (n + 1 + (v.s.length : Int))) vs else n
def startG (e : Evt) : Int := IntKind.i64.wrap (IntKind.i64.wrap ((e.client.s.length : Int) + (e.key.s.length : Int)) + (e.note.length : Int))
def greatE (e : Evt) : Bool := decide (2000 < accG (accG (startG e) e.args) e.out)
theorem accG_step {n : Int} {l : List Val} {i : Nat} (hi : i < l.length) (hn : n ≤ 2000) : accG n (l.drop i) = accG (IntKind.i64.wrap (n + 1 + ((l.getD i ⟨0, 0, []⟩).s.length : Int))) (l.drop (i + 1)) := by
  rw [List.drop_eq_getElem_cons hi, accG, if_pos hn]
  simp [hi]
theorem accG_end {n : Int} {l : List Val} {i : Nat} (h : ¬ (i < l.length ∧ n ≤ 2000)) : accG n (l.drop i) = n := by
  by_cases hi : i < l.length
  · rw [List.drop_eq_getElem_cons hi, accG, if_neg (fun hn => h ⟨hi, hn⟩)]
  · rw [List.drop_eq_nil_of_le (by omega), accG]
theorem accG_big {l : List Val} (hl : ∀ v ∈ l, v.s.length ≤ 40) : ∀ {n : Int}, 0 ≤ n → n ≤ 3000 → accG n l ≤ 2000 → n + l.length ≤ accG n l := by
  induction l with
  | nil => intro n _ _ _; simp [accG]
  | cons v vs ih =>
    intro n h0 h1 h
    unfold accG at h ⊢
    split at h
    · rename_i hn
      rw [if_pos hn]
      have hv := hl v List.mem_cons_self
      rw [wr_in (by omega)] at h ⊢
      have := ih (fun x hx => hl x (List.mem_cons_of_mem _ hx)) (n := n + 1 + (v.s.length : Int)) (by omega) (by omega) h
      simp only [List.length_cons]
      omega
    · omega
theorem rightV_len {v : Val} (h : rightV v = true) : v.s.length ≤ 40 := by
  unfold rightV at h
  split at h
  · simp only [Bool.and_eq_true, beq_iff_eq] at h; rw [h.2]; decide
  split at h
  · simp only [beq_iff_eq] at h; rw [h]; decide
  split at h
  · simp only [isWordB, Bool.and_eq_true, decide_eq_true_eq] at h; exact h.2.1.2
  split at h
  · simp only [Bool.and_eq_true, beq_iff_eq] at h; rw [h.2]; decide
  · cases h
theorem fits_right : ∀ {ds : List Int} {l : List Val}, fitsL ds l = true → ∀ v ∈ l, rightV v = true
  | [], [], _, v, hv => by cases hv
  | d :: ds, x :: vs, h, v, hv => by
    rw [fitsL, Bool.and_eq_true] at h
    rcases List.mem_cons.1 hv with rfl | hv
    · exact takes_right h.1
    · exact fits_right h.2 v hv
  | [], _ :: _, h, _, _ => by cases h
  | _ :: _, [], h, _, _ => by cases h
theorem right_vals {e : Evt} (h : rightE e = true) : (∀ v ∈ e.args, rightV v = true) ∧ ∀ v ∈ e.out, rightV v = true := by
  by_cases ht : e.type = 1
  · obtain ⟨_, _, h3, h4⟩ := right_inv h ht
    exact ⟨fits_right h3, by rw [h4]; intro v hv; cases hv⟩
  · obtain ⟨_, _, _, h4, h5, _⟩ := right_end h ht
    exact ⟨by rw [h4]; (intro v hv; cases hv), fun v hv => List.all_eq_true.1 h5 v hv⟩
theorem right_key {e : Evt} (h : rightE e = true) : e.client.s.length ≤ 40 ∧ e.key.s.length ≤ 40 ∧ e.note.length ≤ 100 := by
  obtain ⟨_, h2, h3⟩ := right_head h
  refine ⟨rightV_len (takes_right h2), ?_, ?_⟩
  · by_cases ht : e.type = 1
    · exact rightV_len (takes_right (right_inv h ht).2.1)
    · rw [(right_end h ht).2.2.1]; decide
  · simp only [notedB, Bool.and_eq_true, decide_eq_true_eq] at h3; omega
theorem great_out {e : Evt} (h : rightE e = true) (hg : greatE e = false) : e.out.length ≤ 2000 := by
  have hk := right_key h
  have ha := right_args h
  have hv := right_vals h
  have hs : startG e = (e.client.s.length : Int) + e.key.s.length + e.note.length := by
    unfold startG
    rw [wr_in (n := (e.client.s.length : Int) + (e.key.s.length : Int)) (by omega), wr_in (by omega)]
  have h1 : ∀ {n : Int} {l : List Val}, (∀ v ∈ l, v.s.length ≤ 40) → l.length ≤ 2 → 0 ≤ n → n ≤ 180 → 0 ≤ accG n l ∧ accG n l ≤ 3000 := by
    intro n l hl hll h0 h1
    match l, hll with
    | [], _ => exact ⟨h0, by show n ≤ _; omega⟩
    | [x], _ =>
      have := hl x (by simp)
      rw [accG, if_pos (by omega), wr_in (by omega), accG]; omega
    | [x, y], _ =>
      have := hl x (by simp)
      have := hl y (by simp)
      rw [accG, if_pos (by omega), wr_in (by omega), accG, if_pos (by omega), wr_in (by omega), accG]; omega
  have h2 := h1 (n := startG e) (fun v hv2 => rightV_len (hv.1 v hv2)) ha (by omega) (by omega)
  unfold greatE at hg
  have h3 := of_decide_eq_false hg
  have := accG_big (fun v hv2 => rightV_len (hv.2 v hv2)) h2.1 h2.2 (by omega)
  omega

theorem name_takes (v : Val) : nameB v = takesB 0 v := by
  unfold nameB takesB
  cases rightV v <;> simp
theorem takes01 (v : Val) : takesB 1 v = takesB 0 v := by
  unfold takesB
  cases rightV v <;> simp
def fitsR (m o : Int) (l : List Val) : Bool := (argsD m o).2 && fitsL (argsD m o).1 l
theorem argsD_yes {m o : Int} (h : (findS m o).2 = true) : argsD m o = (doms (findS m o).1.ins, true) := by unfold argsD; rw [if_pos h]
theorem argsD_no {m o : Int} (h : (findS m o).2 = false) : argsD m o = ([], false) := by unfold argsD; rw [if_neg (by simp [h])]
theorem right_parts {e : Evt} {b : Bool} (h : b = rightE e) : b = rightE e := h
theorem nl_no {s : Bs} (h : ∀ j (hj : j < s.length), ¬ s[j] = 10) : decide (0 ≤ Lib.indexByte s 10) = false := by rw [idx_none h]; rfl
theorem nl_yes {s : Bs} {i : Nat} (hi : i < s.length) (h : s[i] = 10) : decide (0 ≤ Lib.indexByte s 10) = true := decide_eq_true (idx_pos hi h)
theorem head_bad {e : Evt} (h : ((((decide (e.time < 0)) || (!(nameB e.client))) || (decide (100 < (e.note.length : Int)))) || ((!e.noted) && (!(e.note == [])))) = true) : rightE e = false := by
  unfold rightE
  rw [if_pos]
  rw [name_takes] at h
  unfold notedB
  simp only [Bool.or_eq_true, Bool.and_eq_true, Bool.not_eq_true', decide_eq_true_eq, Bool.and_eq_false_iff, Bool.or_eq_false_iff, decide_eq_false_iff_not, Bool.not_eq_false'] at h ⊢
  rcases h with ((h | h) | h) | h
  · exact .inl (.inl h)
  · exact .inl (.inr h)
  · exact .inr (.inl (.inl (by omega)))
  · exact .inr (.inr h)
theorem note_bad {e : Evt} {i : Nat} (hi : i < e.note.length) (h : e.note[i] = 10) : rightE e = false := by
  unfold rightE
  rw [if_pos]
  unfold notedB
  rw [nl_yes hi h]
  simp
theorem head_good {e : Evt} (h : ((((decide (e.time < 0)) || (!(nameB e.client))) || (decide (100 < (e.note.length : Int)))) || ((!e.noted) && (!(e.note == [])))) = false) (hn : ∀ j (hj : j < e.note.length), ¬ e.note[j] = 10) : ((decide (e.time < 0) || !takesB 0 e.client) || !notedB e) = false := by
  rw [name_takes] at h
  unfold notedB
  rw [nl_no hn]
  simp only [Bool.or_eq_false_iff, Bool.and_eq_false_iff, Bool.not_eq_false', decide_eq_false_iff_not, Bool.and_eq_true, Bool.or_eq_true, decide_eq_true_eq, Bool.not_false, and_true] at h ⊢
  obtain ⟨⟨⟨h1, h2⟩, h3⟩, h4⟩ := h
  exact ⟨⟨h1, h2⟩, by omega, h4⟩
theorem right_one {e : Evt} (hd : ((decide (e.time < 0) || !takesB 0 e.client) || !notedB e) = false) (ht : e.type = 1) : rightE e = (((fitsR e.model e.op e.args) && (nameB e.key)) && (decide ((e.out.length : Int) = 0))) := by
  unfold rightE fitsR
  rw [if_neg (by rw [hd]; simp), if_pos ht, name_takes, takes01]
  cases (argsD e.model e.op).2 <;> cases takesB 0 e.key <;> simp
theorem right_bad {e : Evt} (hd : ((decide (e.time < 0) || !takesB 0 e.client) || !notedB e) = false) (ht : ¬ e.type = 1)
    (h : ((((((decide (e.type < 2)) || (decide (4 < e.type))) || (!decide (e.model = 0))) || (!decide (e.op = 0))) || (!(decide (e.key.k = 0) && (decide (e.key.n = 0) && (e.key.s == [] && true))))) || (decide (0 < (e.args.length : Int)))) = true) : rightE e = false := by
  unfold rightE
  rw [if_neg (by rw [hd]; simp), if_neg ht]
  split
  · rfl
  · rename_i h2
    simp only [Bool.or_eq_true, not_or] at h h2
    have ho : e.type < 2 ∨ 4 < e.type := by
      rcases h with ((((h | h) | h) | h) | h) | h
      · exact .inl (of_decide_eq_true h)
      · exact .inr (of_decide_eq_true h)
      · exact absurd h h2.1.1.1
      · exact absurd h h2.1.1.2
      · exact absurd h h2.1.2
      · exact absurd h h2.2
    rw [decide_eq_false (by omega : ¬ e.type = 2), decide_eq_false (by omega : ¬ e.type = 3), decide_eq_false (by omega : ¬ e.type = 4)]
    simp
theorem right_rest {e : Evt} (hd : ((decide (e.time < 0) || !takesB 0 e.client) || !notedB e) = false) (ht : ¬ e.type = 1)
    (h : ((((((decide (e.type < 2)) || (decide (4 < e.type))) || (!decide (e.model = 0))) || (!decide (e.op = 0))) || (!(decide (e.key.k = 0) && (decide (e.key.n = 0) && (e.key.s == [] && true))))) || (decide (0 < (e.args.length : Int)))) = false) : rightE e = (e.out.all rightV && ((decide (e.type = 2)) || (decide ((e.out.length : Int) = 0)))) := by
  unfold rightE
  rw [if_neg (by rw [hd]; simp), if_neg ht]
  simp only [Bool.or_eq_false_iff] at h
  obtain ⟨⟨⟨⟨⟨h1, h2⟩, h3⟩, h4⟩, h5⟩, h6⟩ := h
  rw [if_neg (by rw [h3, h4, h5, h6]; simp)]
  have h1' := of_decide_eq_false h1
  have h2' := of_decide_eq_false h2
  have : e.type = 2 ∨ e.type = 3 ∨ e.type = 4 := by omega
  rcases this with e1 | e1 | e1 <;> rw [e1] <;> simp
theorem printE_len {e : Evt} (hw : e.Wf) (h : rightE e = true) (ho : e.out.length ≤ 2000) : (printE e).length ≤ 100000 := by
  have h1 := joinE_len hw
  have h2 := right_args h
  have h3 := (right_key h).2.2
  unfold printE
  rw [if_pos h]
  split
  · simp only [List.length_append, List.length_cons, List.length_nil]; omega
  · simp only [List.length_append, List.length_nil]; omega
end Go.Proofs.YtngoaapgdfohjaaGreatDoor.T28
