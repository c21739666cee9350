/- Own text. -/
import Derived.Test.YtngoaapgdfohjaaGreatDoorX40
import Derived.Test.YtngoaapgdfohjaaGreatDoorN1
import Derived.Test.YtngoaapgdfohjaaGreatDoorN2
import Derived.Test.YtngoaapgdfohjaaGreatDoorN4
import Derived.Test.YtngoaapgdfohjaaGreatDoorN6
import Derived.Test.YtngoaapgdfohjaaGreatDoorN7
import Derived.Test.YtngoaapgdfohjaaGreatDoorN8
import Derived.Laws.BitsLemmas
set_option linter.unusedVariables false
set_option linter.unusedSimpArgs false
namespace Go.Proofs.YtngoaapgdfohjaaGreatDoor.T28
open Go Go.Proofs.YtngoaapgdfohjaaGreatDoor.X

def ruledB (d : Int) (r : Rul) : Bool := (decide (r.way = 2) && (decide (1 ≤ r.size) && decide (r.size ≤ 16))) || ((decide (r.way = 0) || decide (r.way = 1)) && decide (r.size = 0)) || (decide (r.way = 3) && (decide (d = 4) && decide (r.size = 0)))
def rightB (p : Pol) : Bool :=
  ruledB 0 p.r0 && (ruledB 1 p.r1 && (ruledB 2 p.r2 && (ruledB 3 p.r3 && (ruledB 4 p.r4 && ((decide (p.time = 0) || decide (p.time = 3)) && (decide (p.note = 0) || decide (p.note = 4)))))))
def sizeS (s : Bs) (most : Int) : Except Int Int := if digitsB s = true then (if (dv s : Int) ≤ most then .ok (dv s) else .error 3) else .error 2
def countS (s : Bs) (most : Int) : Except Int Int := match sizeS s 9223372036854775807 with
  | .error e => .error e
  | .ok n => if most < 0 ∨ most < n then .error 3 else .ok n
def parseS (s : Bs) : Except Int Int :=
  if s = [] ∨ bt s 0 ≠ 45 then sizeS s 9223372036854775807
  else match sizeS (s.drop 1) 9223372036854775808 with
    | .error e => .error e
    | .ok n => if n = 0 then .error 2 else .ok (-n)
theorem dig_of {s : Bs} {i : Nat} (hi : i < s.length) (h1 : 48 ≤ bt s i) (h2 : bt s i ≤ 57) : digB s[i] = true := by
  rw [bt_nat hi] at h1 h2
  simp only [digB, Bool.and_eq_true, decide_eq_true_eq]
  omega
theorem dig_at {s : Bs} (h : s.all digB = true) {i : Nat} (hi : i < s.length) : 48 ≤ bt s i ∧ bt s i ≤ 57 := by
  have := List.all_eq_true.1 h _ (List.getElem_mem hi)
  simp only [digB, Bool.and_eq_true, decide_eq_true_eq] at this
  rw [bt_nat hi]
  omega
theorem digits_all {s : Bs} (h : digitsB s = true) : s.all digB = true := by simp only [digitsB, Bool.and_eq_true] at h; exact h.1
theorem digits_pos {s : Bs} (h : digitsB s = true) : 0 < s.length := by simp only [digitsB, Bool.and_eq_true, decide_eq_true_eq] at h; exact h.2.1
theorem digits_no {s : Bs} {i : Nat} (hi : i < s.length) (h : bt s i < 48 ∨ 57 < bt s i) : digitsB s = false := by
  cases hd : digitsB s with
  | false => rfl
  | true => have := dig_at (digits_all hd) hi; omega
theorem digits_eq {s : Bs} (h : s.all digB = true) : (decide (0 < (s.length : Int)) && (decide ((s.length : Int) = 1) || !decide (bt s 0 = 48))) = digitsB s := by
  unfold digitsB
  rw [h, Bool.true_and]
  have e1 : decide (0 < (s.length : Int)) = decide (0 < s.length) := decide_eq_decide.2 (by omega)
  have e2 : decide ((s.length : Int) = 1) = decide (s.length = 1) := decide_eq_decide.2 (by omega)
  rw [e1, e2]
theorem digits_of {s : Bs} (h : s.all digB = true) (h1 : ¬ s = []) (h2 : ¬ bt s 0 = 48 ∨ ¬ 1 < (s.length : Int)) : digitsB s = true := by
  rw [← digits_eq h]
  have h0 : 0 < s.length := List.length_pos_iff.2 h1
  simp only [Bool.and_eq_true, Bool.or_eq_true, decide_eq_true_eq, Bool.not_eq_true', decide_eq_false_iff_not]
  refine ⟨by omega, ?_⟩
  rcases h2 with h2 | h2
  · exact .inr h2
  · exact .inl (by omega)
theorem size_no {s : Bs} {most : Int} (h : digitsB s = false) : sizeS s most = .error 2 := by simp [sizeS, h]
theorem size_e2a {s : Bs} {most : Int} (h : s = [] ∨ bt s 0 = 48 ∧ 1 < (s.length : Int)) : sizeS s most = .error 2 := by
  refine size_no ?_
  cases hd : digitsB s with
  | false => rfl
  | true =>
    have h0 := digits_pos hd
    have h1 := digits_all hd
    rw [← digits_eq h1] at hd
    simp only [Bool.and_eq_true, Bool.or_eq_true, decide_eq_true_eq, Bool.not_eq_true', decide_eq_false_iff_not] at hd
    rcases h with rfl | h
    · simp at h0
    · omega
theorem size_e2b {s : Bs} {most : Int} {i : Nat} (hi : i < s.length) (h : bt s i < 48 ∨ 57 < bt s i) : sizeS s most = .error 2 := size_no (digits_no hi h)
theorem dv_step {s : Bs} (h : s.all digB = true) {j : Nat} (hj : j < s.length) : ((dv (s.take (j + 1)) : Nat) : Int) = (dv (s.take j) : Int) * 10 + (bt s j - 48) := by
  have := dig_at h hj
  rw [bt_nat hj] at this ⊢
  rw [dv_take hj]
  omega
theorem size_e3 {s : Bs} {most : Int} (hd : digitsB s = true) {j : Nat} (hj : j < s.length) (h : most < (dv (s.take j) : Int) * 10 + (bt s j - 48)) : sizeS s most = .error 3 := by
  rw [← dv_step (digits_all hd) hj] at h
  have := dv_mono s (j + 1)
  unfold sizeS
  rw [if_pos hd, if_neg (by omega)]
theorem size_ok {s : Bs} {most : Int} (hd : digitsB s = true) (h : (dv s : Int) ≤ most) : sizeS s most = .ok (dv s : Int) := by
  unfold sizeS
  rw [if_pos hd, if_pos h]
theorem size_bound {s : Bs} {most n : Int} (h : sizeS s most = .ok n) : 0 ≤ n ∧ n ≤ most := by
  unfold sizeS at h
  split at h
  · split at h
    · cases h; omega
    · cases h
  · cases h
theorem dv_zero {s : Bs} (hd : digitsB s = true) (hn : ¬ s = [48]) : ¬ (dv s : Int) = 0 := by
  intro e
  have h1 := digits_all hd
  have h0 := digits_pos hd
  rcases Nat.lt_or_ge 1 s.length with h | h
  · have := dv_ge hd h
    have := Nat.pow_pos (a := 10) (n := s.length - 1) (by decide)
    omega
  · match s, h0, h with
    | [b], _, _ =>
      have h2 := dig_at h1 (i := 0) (by simp)
      have h3 : bt [b] ((0 : Nat) : Int) = (b.toNat : Int) := rfl
      rw [h3] at h2
      have h4 : dv [b] = 0 * 10 + (b.toNat - 48) := rfl
      have h5 : b.toNat = 48 := by omega
      exact hn (by rw [show b = 48 from UInt8.toNat_inj.1 h5])
theorem size_big {s : Bs} {most : Int} (hd : digitsB s = true) (h : ¬ (dv s : Int) ≤ most) : sizeS s most = .error 3 := by
  unfold sizeS
  rw [if_pos hd, if_neg h]
theorem parse_neg {s : Bs} (h0 : 0 < (s.length : Int) ∧ bt s 0 = 45) : parseS s = match sizeS (s.drop 1) 9223372036854775808 with
    | .error e => .error e
    | .ok n => if n = 0 then .error 2 else .ok (-n) := by
  unfold parseS
  rw [if_neg]
  rintro (h | h)
  · subst h; simp at h0
  · exact h h0.2
theorem parse_pos {s : Bs} (h0 : ¬ 0 < (s.length : Int) ∨ ¬ bt s 0 = 45) : parseS s = sizeS s 9223372036854775807 := by
  unfold parseS
  rw [if_pos]
  rcases h0 with h | h
  · left; exact List.eq_nil_of_length_eq_zero (by omega)
  · exact .inr h
theorem parse_nok {s : Bs} (h0 : 0 < (s.length : Int) ∧ bt s 0 = 45) (hd : digitsB (s.drop 1) = true) (hn : ¬ s.drop 1 = [48]) (hb : (dv (s.drop 1) : Int) ≤ 9223372036854775808) : parseS s = .ok (-(dv (s.drop 1) : Int)) := by
  rw [parse_neg h0, size_ok hd hb]
  exact if_neg (dv_zero hd hn)
theorem count_digits {s : Bs} {most : Int} (hd : digitsB s = true) : countS s most = if ¬ erv (parseS s) = 0 ∨ most < okv (parseS s) then .error 3 else .ok (okv (parseS s)) := by
  have h1 := dig_at (digits_all hd) (i := 0) (digits_pos hd)
  have e : parseS s = sizeS s 9223372036854775807 := parse_pos (.inr (by
    have : bt s ((0 : Nat) : Int) = bt s 0 := rfl
    omega))
  unfold countS
  rw [e]
  by_cases hb : (dv s : Int) ≤ 9223372036854775807
  · rw [size_ok hd hb]
    show (if most < 0 ∨ most < (dv s : Int) then Except.error 3 else Except.ok (dv s : Int)) = if ¬ (0 : Int) = 0 ∨ most < (dv s : Int) then Except.error 3 else Except.ok (dv s : Int)
    by_cases h : most < (dv s : Int)
    · rw [if_pos (.inr h), if_pos (.inr h)]
    · rw [if_neg (by omega), if_neg (by omega)]
  · rw [size_big hd hb]
    show Except.error 3 = if ¬ (3 : Int) = 0 ∨ most < 0 then Except.error 3 else Except.ok 0
    rw [if_pos (.inl (by decide))]
def lowB (c : Int) : Bool := decide (97 ≤ c) && decide (c ≤ 122)
def letterB (c : Int) (first : Bool) : Bool := lowB c || (!first && (decide (c = 95) || (decide (48 ≤ c) && decide (c ≤ 57))))
theorem letter_eq (c : Int) : (((decide (97 ≤ c) && decide (c ≤ 122)) || (decide (48 ≤ c) && decide (c ≤ 57))) || decide (c = 95)) = letterB c false := by
  unfold letterB lowB
  cases decide (97 ≤ c) <;> cases decide (c ≤ 122) <;> cases decide (48 ≤ c) <;> cases decide (c ≤ 57) <;> cases decide (c = 95) <;> rfl
def isWordB (s : Bs) : Bool := (decide (1 ≤ s.length) && decide (s.length ≤ 40)) && (lowB (bt s 0) && s.all fun c => letterB (c.toNat : Int) false)
theorem all_snoc {α : Type} {p : α → Bool} {s : List α} {i : Nat} (h : i < s.length) : (s.take (i + 1)).all p = ((s.take i).all p && p s[i]) := by
  rw [List.take_add_one, List.getElem?_eq_getElem h, List.all_append]
  simp
theorem all_not {α : Type} {p : α → Bool} {s : List α} {i : Nat} (h : i < s.length) (hp : p s[i] = false) : s.all p = false := by
  cases ha : s.all p with
  | false => rfl
  | true => rw [List.all_eq_true.1 ha _ (List.getElem_mem h)] at hp; cases hp
def wordC (c : UInt8) : Bool := letterB (c.toNat : Int) false
theorem word_def (s : Bs) : isWordB s = ((decide (1 ≤ s.length) && decide (s.length ≤ 40)) && (lowB (bt s 0) && s.all wordC)) := rfl
theorem word_ref_no {s : Bs} {i : Nat} (hi : i < s.length) (h : letterB (bt s (i : Int)) (decide ((i : Int) = 0)) = false) : isWordB s = false := by
  by_cases h0 : i = 0
  · subst h0
    have e : bt s ((0 : Nat) : Int) = bt s 0 := rfl
    rw [e] at h
    have hl : lowB (bt s 0) = false := by
      simp only [letterB, Bool.or_eq_false_iff] at h
      exact h.1
    rw [word_def, hl]; simp
  · have e : decide ((i : Int) = 0) = false := by simp; omega
    rw [e] at h
    rw [word_def, all_not hi (by unfold wordC; rw [← bt_nat hi]; exact h)]; simp
theorem word_ref {s : Bs} (ha : ∀ j, j < s.length → letterB (bt s (j : Int)) (decide ((j : Int) = 0)) = true) : (decide (1 ≤ (s.length : Int)) && decide ((s.length : Int) ≤ 40)) = isWordB s := by
  rw [word_def, show decide (1 ≤ (s.length : Int)) = decide (1 ≤ s.length) from decide_eq_decide.2 (by omega), show decide ((s.length : Int) ≤ 40) = decide (s.length ≤ 40) from decide_eq_decide.2 (by omega)]
  by_cases h0 : 1 ≤ s.length
  · have h1 : lowB (bt s 0) = true := by
      have := ha 0 (by omega)
      have e : bt s ((0 : Nat) : Int) = bt s 0 := rfl
      rw [e] at this
      simpa [letterB] using this
    have h2 : s.all wordC = true := by
      rw [List.all_eq_true]
      intro x hx
      obtain ⟨j, hj, rfl⟩ := List.mem_iff_getElem.1 hx
      have h3 := ha j hj
      rw [bt_nat hj] at h3
      unfold wordC
      by_cases e : j = 0
      · subst e
        simp only [letterB] at h3 ⊢
        simp at h3 ⊢
        exact .inl h3
      · have e2 : decide ((j : Int) = 0) = false := by simp; omega
        rw [e2] at h3
        exact h3
    rw [h1, h2]; simp
  · rw [decide_eq_false h0]; simp
def parseV (s : Bs) : Val × Int :=
  if s = [126] then (⟨0, 0, []⟩, 0) else if s = [84] then (⟨3, 1, []⟩, 0) else if s = [70] then (⟨3, 0, []⟩, 0)
  else if isWordB s = true then (⟨2, 0, s⟩, 0) else if ¬ erv (parseS s) = 0 then (⟨0, 0, []⟩, erv (parseS s)) else (⟨1, okv (parseS s), []⟩, 0)
theorem wordC_bt {s : Bs} {i : Nat} (h : i < s.length) : wordC s[i] = letterB (bt s i) false := by unfold wordC; rw [bt_nat h]
theorem word_len {s : Bs} (h : s = [] ∨ 40 < (s.length : Int)) : isWordB s = false := by
  rw [word_def]
  have : (decide (1 ≤ s.length) && decide (s.length ≤ 40)) = false := by
    simp only [Bool.and_eq_false_iff, decide_eq_false_iff_not]
    rcases h with rfl | h
    · left; simp
    · right; omega
  rw [this]; rfl
theorem word_first {s : Bs} (h : bt s 0 < 97 ∨ 122 < bt s 0) : isWordB s = false := by
  rw [word_def]
  have : lowB (bt s 0) = false := by simp only [lowB, Bool.and_eq_false_iff, decide_eq_false_iff_not]; omega
  rw [this]; simp
theorem word_at {s : Bs} {i : Nat} (hi : i < s.length) (h : letterB (bt s i) false = false) : isWordB s = false := by
  rw [word_def, all_not hi (by rw [wordC_bt hi]; exact h)]; simp
theorem word_yes {s : Bs} (h0 : ¬ s = []) (h1 : ¬ 40 < (s.length : Int)) (h2 : ¬ bt s 0 < 97) (h3 : ¬ 122 < bt s 0) (h4 : s.all wordC = true) : isWordB s = true := by
  have := List.length_pos_iff.2 h0
  rw [word_def, h4]
  simp only [lowB, Bool.and_true, Bool.and_eq_true, decide_eq_true_eq]
  omega
theorem ok_size {s : Bs} {most n : Int} (h : sizeS s most = .ok n) : digitsB s = true ∧ n = (dv s : Int) := by
  unfold sizeS at h
  split at h
  · rename_i hd
    split at h
    · cases h; exact ⟨hd, rfl⟩
    · cases h
  · cases h
theorem size_err {s : Bs} {most e : Int} (h : sizeS s most = .error e) : ¬ e = 0 := by
  unfold sizeS at h
  split at h
  · split at h
    · cases h
    · cases h; decide
  · cases h; decide
theorem dd_not45 (k : Nat) : ¬ bt (dd k) 0 = 45 := by
  have h := dig_at (dd_all k) (i := 0) (dd_pos k)
  have e : bt (dd k) ((0 : Nat) : Int) = bt (dd k) 0 := rfl
  rw [e] at h
  omega
theorem parse_itoa {n : Int} (hn : -9223372036854775808 ≤ n ∧ n ≤ 9223372036854775807) : parseS (Lib.itoa n) = .ok n := by
  by_cases h : 0 ≤ n
  · rw [itoa_nn h, parse_pos (.inr (dd_not45 _)), size_ok (dd_digits _) (by rw [dd_dv]; omega), dd_dv]
    rw [show ((n.toNat : Nat) : Int) = n by omega]
  · rw [itoa_ng (by omega)]
    rw [parse_nok (s := 45 :: dd n.natAbs) ⟨by simp, rfl⟩ (dd_digits _) (fun e => by
      have e1 : dd n.natAbs = [48] := e
      have := dd_dv n.natAbs
      rw [e1] at this
      have e2 : dv [48] = 0 := rfl
      omega) (by show (dv (dd n.natAbs) : Int) ≤ _; rw [dd_dv]; omega)]
    show Except.ok (-(dv (dd n.natAbs) : Int)) = _
    rw [dd_dv]
    congr 1
    omega
theorem parse_range {s : Bs} {n : Int} (h : parseS s = .ok n) : -9223372036854775808 ≤ n ∧ n ≤ 9223372036854775807 := by
  unfold parseS at h
  split at h
  · have := size_bound h; omega
  · split at h
    · cases h
    · rename_i hm
      split at h
      · cases h
      · cases h
        have := size_bound hm
        omega
theorem okv_range {s : Bs} : I64 (okv (parseS s)) := by
  cases hp : parseS s with
  | error e => exact (by decide : I64 0)
  | ok n => exact parse_range hp
def rightV (v : Val) : Bool :=
  if v.k = 0 then decide (v.n = 0) && v.s == [] else if v.k = 1 then v.s == [] else if v.k = 2 then decide (v.n = 0) && isWordB v.s
  else if v.k = 3 then (decide (v.n = 0) || decide (v.n = 1)) && v.s == [] else false
def printV (v : Val) : Bs :=
  if rightV v = false then [] else if v.k = 0 then [126] else if v.k = 1 then Lib.itoa v.n else if v.k = 2 then v.s else if v.n = 1 then [84] else [70]
theorem parse_wf {s : Bs} (hl : s.length ≤ 9223372036854775807) : (parseV s).1.Wf := by
  have h0 : I64 0 := by decide
  have h3 : I64 3 := by decide
  have h1 : I64 1 := by decide
  have h2 : I64 2 := by decide
  have hz : ([] : Bs).length ≤ 9223372036854775807 := by decide
  unfold parseV
  split
  · exact ⟨h0, h0, hz⟩
  split
  · exact ⟨h3, h1, hz⟩
  split
  · exact ⟨h3, h0, hz⟩
  split
  · exact ⟨h2, h0, hl⟩
  split
  · exact ⟨h0, h0, hz⟩
  · refine ⟨h1, ?_, hz⟩
    show I64 (okv (parseS s))
    cases hp : parseS s with
    | error e => exact h0
    | ok n => exact parse_range hp
theorem word_low {s : Bs} (h : isWordB s = true) : 97 ≤ bt s 0 ∧ bt s 0 ≤ 122 := by
  rw [word_def] at h
  simp only [lowB, Bool.and_eq_true, decide_eq_true_eq] at h
  exact h.2.1
theorem itoa_first {n : Int} : bt (Lib.itoa n) 0 = 45 ∨ (48 ≤ bt (Lib.itoa n) 0 ∧ bt (Lib.itoa n) 0 ≤ 57) := by
  by_cases h : 0 ≤ n
  · rw [itoa_nn h]
    exact .inr (dig_at (dd_all _) (i := 0) (dd_pos _))
  · rw [itoa_ng (by omega)]; exact .inl rfl
theorem itoa_noword {n : Int} : isWordB (Lib.itoa n) = false := by
  cases h : isWordB (Lib.itoa n) with
  | false => rfl
  | true => have := word_low h; have := itoa_first (n := n); omega
theorem bt_one (b : UInt8) : bt [b] 0 = (b.toNat : Int) := rfl
theorem parse_print {v : Val} (hn : -9223372036854775808 ≤ v.n ∧ v.n ≤ 9223372036854775807) (h : rightV v = true) : parseV (printV v) = (v, 0) := by
  obtain ⟨k, n, s⟩ := v
  unfold printV
  rw [if_neg (by rw [h]; decide)]
  unfold rightV at h
  dsimp only at h hn ⊢
  split at h
  · rename_i h1
    subst h1
    simp only [Bool.and_eq_true, decide_eq_true_eq, beq_iff_eq] at h
    obtain ⟨rfl, rfl⟩ := h
    rfl
  · rename_i h1
    rw [if_neg h1]
    split at h
    · rename_i h2
      subst h2
      rw [if_pos rfl]
      have hs : s = [] := by simpa using h
      subst hs
      have hf := itoa_first (n := n)
      unfold parseV
      rw [if_neg (fun e => by rw [e, bt_one] at hf; revert hf; decide), if_neg (fun e => by rw [e, bt_one] at hf; revert hf; decide), if_neg (fun e => by rw [e, bt_one] at hf; revert hf; decide), if_neg (by rw [itoa_noword]; decide), parse_itoa hn]
      rfl
    · rename_i h2
      rw [if_neg h2]
      split at h
      · rename_i h3
        subst h3
        rw [if_pos rfl]
        simp only [Bool.and_eq_true, decide_eq_true_eq] at h
        obtain ⟨rfl, hw⟩ := h
        have hf := word_low hw
        unfold parseV
        rw [if_neg (fun e => by rw [e, bt_one] at hf; revert hf; decide), if_neg (fun e => by rw [e, bt_one] at hf; revert hf; decide), if_neg (fun e => by rw [e, bt_one] at hf; revert hf; decide), if_pos hw]
      · rename_i h3
        rw [if_neg h3]
        split at h
        · rename_i h4
          subst h4
          simp only [Bool.and_eq_true, Bool.or_eq_true, decide_eq_true_eq, beq_iff_eq] at h
          obtain ⟨hn', rfl⟩ := h
          rcases hn' with rfl | rfl
          · rfl
          · rfl
        · cases h
/-- What a line has, and its note; the fault. -/
def noteS (s : Bs) : Bs × Bs × Bool × Int :=
  if cutF s 59 = false then (s, [], false, 0)
  else if (!Lib.hasSuffix (cutA s 59) [32]) = true ∨ 100 < ((cutB s 59).length : Int) ∨ 0 ≤ Lib.indexByte (cutB s 59) 10 then ([], [], false, 2)
  else (Lib.trimSuffix (cutA s 59) [32], cutB s 59, true, 0)
theorem cutA_len (s : Bs) (c : UInt8) : (cutA s c).length ≤ s.length := by
  unfold cutA
  rcases index_two s c with h | ⟨i, h⟩
  · rw [cut_none h]; exact Nat.le_refl _
  · rw [cut_some h, List.length_take]; omega
theorem cutB_len (s : Bs) (c : UInt8) : (cutB s c).length ≤ s.length := by
  unfold cutB
  rcases index_two s c with h | ⟨i, h⟩
  · rw [cut_none h]; exact Nat.zero_le _
  · rw [cut_some h, List.length_drop]; omega
theorem idx_none {s : Bs} {c : UInt8} (h : ∀ j (hj : j < s.length), ¬ s[j] = c) : Lib.indexByte s c = -1 := by
  induction s with
  | nil => rfl
  | cons b r ih =>
    have h0 := h 0 (by simp)
    have hr := ih fun j hj => h (j + 1) (by simpa using hj)
    simp only [List.getElem_cons_zero] at h0
    unfold Lib.indexByte
    rw [hr]
    simp [h0]
theorem idx_at {s : Bs} {c : UInt8} {i : Nat} (hi : i < s.length) (he : s[i] = c) (h : ∀ j (hj : j < i), ¬ s[j]'(by omega) = c) : Lib.indexByte s c = (i : Int) := by
  induction s generalizing i with
  | nil => simp at hi
  | cons b r ih =>
    unfold Lib.indexByte
    cases i with
    | zero =>
      have : b = c := he
      simp [this]
    | succ i =>
      have h0 := h 0 (by omega)
      simp only [List.getElem_cons_zero] at h0
      have hr := ih (i := i) (by simpa using hi) (by simpa using he) fun j hj => by have := h (j + 1) (by omega); simpa using this
      rw [hr]
      have hb : (b == c) = false := by simpa using h0
      have hx : (((i : Nat) : Int) == -1) = false := by
        simp only [beq_eq_false_iff_ne, ne_eq]; omega
      rw [hb, hx]
      simp
theorem idx_pos {s : Bs} {c : UInt8} {i : Nat} (hi : i < s.length) (he : s[i] = c) : 0 ≤ Lib.indexByte s c := by
  rcases index_two s c with h | ⟨k, h⟩
  · exfalso
    induction s generalizing i with
    | nil => simp at hi
    | cons b r ih =>
      unfold Lib.indexByte at h
      split at h
      · cases h
      · rename_i hb
        have hr : Lib.indexByte r c = -1 := by
          split at h
          · rename_i h2; simpa using h2
          · have := Lib.indexByte_ge r c; omega
        cases i with
        | zero => exact hb (by simpa using he)
        | succ i => exact ih (i := i) (by simpa using hi) (by simpa using he) hr
  · omega

theorem suff_snoc (q : Bs) (b c : UInt8) : Lib.hasSuffix (q ++ [b]) [c] = decide (b = c) := by
  unfold Lib.hasSuffix
  rw [Bool.eq_iff_iff, List.isSuffixOf_iff_suffix, decide_eq_true_eq]
  constructor
  · rintro ⟨t, h⟩
    exact (List.append_inj' h rfl).2 |> fun e => by simpa using e.symm
  · rintro rfl
    exact ⟨q, rfl⟩
theorem trim_snoc (q : Bs) (c : UInt8) : Lib.trimSuffix (q ++ [c]) [c] = q := by
  unfold Lib.trimSuffix
  rw [suff_snoc, decide_eq_true rfl, if_pos rfl]
  simp
theorem note_none {s : Bs} {i : Nat} (h1 : s.length ≤ i) (ha : ∀ j (hj : j < s.length), ¬ s[j] = 59) : noteS s = (s, [], false, 0) := by
  unfold noteS cutF
  rw [cut_none (idx_none ha), if_pos rfl]
theorem note_at {s : Bs} {i : Nat} (hi : i < s.length) (he : s[i] = 59) (ha : ∀ j (hj : j < i), ¬ s[j]'(by omega) = 59) :
    noteS s = if ((i : Int) = 0 ∨ ¬ bt s ((i : Int) - 1) = 32) ∨ 100 < ((List.drop ((i : Int) + 1).toNat s).length : Int) ∨ 0 ≤ Lib.indexByte (List.drop ((i : Int) + 1).toNat s) 10 then ([], [], false, 2) else (List.take ((i : Int) - 1).toNat s, List.drop ((i : Int) + 1).toNat s, true, 0) := by
  have hc := cut_some (idx_at hi he ha)
  have e1 : ((i : Int) + 1).toNat = i + 1 := by omega
  unfold noteS cutF cutA cutB
  rw [hc, e1]
  dsimp only
  rw [if_neg (by decide)]
  rcases Nat.eq_zero_or_pos i with h0 | h0
  · subst h0
    rw [if_pos (by left; rfl), if_pos (by left; left; rfl)]
  · obtain ⟨k, rfl⟩ : ∃ k, i = k + 1 := ⟨i - 1, by omega⟩
    have e2 : (((k + 1 : Nat) : Int) - 1).toNat = k := by omega
    have e3 : s.take (k + 1) = s.take k ++ [s[k]] := take_snoc (by omega)
    have e4 : bt s (((k + 1 : Nat) : Int) - 1) = ((s[k].toNat : Nat) : Int) := by rw [show ((k + 1 : Nat) : Int) - 1 = (k : Int) by omega]; exact bt_nat (by omega)
    have e5 : (((k + 1 : Nat) : Int) = 0 ∨ ¬ bt s (((k + 1 : Nat) : Int) - 1) = 32) ↔ ¬ s[k] = 32 := by
      rw [e4]
      constructor
      · rintro (h | h)
        · omega
        · intro e; rw [e] at h; exact h rfl
      · intro h
        right
        intro e
        exact h (UInt8.toNat_inj.1 (by simpa using (by omega : s[k].toNat = 32)))
    rw [e2, e3, suff_snoc]
    by_cases hk : s[k] = 32
    · rw [hk, decide_eq_true rfl, trim_snoc]
      have : ¬ (((k + 1 : Nat) : Int) = 0 ∨ ¬ bt s (((k + 1 : Nat) : Int) - 1) = 32) := fun h => e5.1 h hk
      simp only [this, false_or, Bool.not_true, Bool.false_eq_true]
    · rw [decide_eq_false hk, if_pos (by left; rfl), if_pos (.inl (e5.2 hk))]

def nb (b : UInt8) : Bool := !(b == 32)
def okW (x : Bs) : Bool := x.all nb && !(x == [])
structure Row where
  model : Int
  op : Int
  ins : Bs
  out : Int
  may : Bool deriving DecidableEq
def rowsT : List Row := [⟨1, 1, [118], (-1), false⟩, ⟨1, 2, [], 2, true⟩, ⟨2, 1, [118], (-1), false⟩, ⟨2, 2, [], 2, true⟩, ⟨2, 3, [118, 118], 6, false⟩, ⟨3, 4, [118], (-1), false⟩, ⟨3, 5, [118], (-1), false⟩, ⟨3, 6, [118], 6, false⟩, ⟨4, 7, [102, 118], (-1), false⟩, ⟨4, 8, [102], 2, true⟩, ⟨4, 5, [102], (-1), false⟩, ⟨5, 9, [118], (-1), false⟩, ⟨5, 10, [], 2, true⟩, ⟨6, 9, [118], (-1), false⟩, ⟨6, 10, [], 2, true⟩, ⟨7, 11, [], 6, false⟩, ⟨7, 12, [], 6, false⟩, ⟨8, 4, [110], (-1), false⟩, ⟨8, 2, [], 5, false⟩, ⟨9, 1, [111], (-1), false⟩, ⟨9, 2, [], 4, true⟩, ⟨10, 7, [111, 118], (-1), false⟩, ⟨10, 5, [111], (-1), false⟩, ⟨10, 13, [111, 111], 99, false⟩]
def isRow (m o : Int) (r : Row) : Bool := decide (r.model = m) && decide (r.op = o)
def findS (m o : Int) : Row × Bool := match rowsT.find? (isRow m o) with
  | some r => (r, true)
  | none => (⟨0, 0, [], 0, false⟩, false)
/-- The number of a word in a list; not the first one's. -/
def idxW : List Bs → Int → Bs → Int × Bool
  | [], _, _ => (0, false)
  | x :: r, k, w => if (decide (0 < k) && (x == w)) = true then (k, true) else idxW r (k + 1) w
def modelsW : List Bs := [[], [114, 101, 103], [99, 97, 115], [115, 101, 116], [109, 97, 112], [102, 105, 102, 111], [115, 116, 97, 99, 107], [108, 111, 99, 107], [99, 111, 117, 110, 116], [109, 97, 120], [111, 109, 97, 112]]
def opsW : List Bs := [[], [119, 114, 105, 116, 101], [114, 101, 97, 100], [115, 119, 97, 112], [97, 100, 100], [100, 101, 108], [104, 97, 115], [112, 117, 116], [103, 101, 116], [112, 117, 115, 104], [112, 111, 112], [116, 97, 107, 101], [102, 114, 101, 101], [115, 99, 97, 110]]
def modelS (w : Bs) : Int × Bool := idxW modelsW 0 w
def opS (w : Bs) : Int × Bool := idxW opsW 0 w
def takesB (d : Int) (v : Val) : Bool :=
  if rightV v = false then false else if d = 0 ∨ d = 1 ∨ d = 2 ∨ d = 3 ∨ d = 4 then decide (v.k = 1) || decide (v.k = 2) else if d = 5 then decide (v.k = 1) else decide (d = 6) && decide (v.k = 3)
def domS (c : Int) : Int := if c = 118 then 2 else if c = 102 then 3 else if c = 111 then 4 else 5
def doms (s : Bs) : List Int := s.map fun b => domS (b.toNat : Int)
/-! What a line's words are read to. -/
def faultS (e e2 : Int) : Int := if e = 0 then e2 else e
def nextS (l : List Bs) (e : Int) : Bs × List Bs × Int :=
  if (if l = [] then faultS e 2 else e) = 0 then (l.getD 0 [], l.drop 1, 0) else ([], l, if l = [] then faultS e 2 else e)
def valueS (d : Int) (l : List Bs) (e : Int) : Val × List Bs × Int :=
  if (nextS l e).2.2 = 0 then ((parseV (nextS l e).1).1, (nextS l e).2.1,
    if ((decide (faultS (nextS l e).2.2 (parseV (nextS l e).1).2 = 0) && decide (0 ≤ d)) && !takesB d (parseV (nextS l e).1).1) = true then faultS (faultS (nextS l e).2.2 (parseV (nextS l e).1).2) 2 else faultS (nextS l e).2.2 (parseV (nextS l e).1).2)
  else (⟨0, 0, []⟩, (nextS l e).2.1, (nextS l e).2.2)
def argsL : List Int → List Bs → Int → List Val × List Bs × Int
  | [], l, e => ([], l, e)
  | d :: r, l, e => ((valueS d l e).1 :: (argsL r (valueS d l e).2.1 (valueS d l e).2.2).1, (argsL r (valueS d l e).2.1 (valueS d l e).2.2).2)
theorem splitS_mem {c : UInt8} : ∀ {s x : Bs}, x ∈ splitS c s → x.length ≤ s.length
  | [], x, h => by simp [splitS] at h; subst h; exact Nat.le_refl _
  | b :: r, x, h => by
    unfold splitS at h
    split at h
    · rcases List.mem_cons.1 h with rfl | h
      · exact Nat.zero_le _
      · exact Nat.le_succ_of_le (splitS_mem h)
    · have ih := fun y => splitS_mem (c := c) (s := r) (x := y)
      split at h
      · simp at h; subst h; simp
      · rename_i y z hz
        rw [hz] at ih
        rcases List.mem_cons.1 h with rfl | h
        · simpa using ih y (by simp)
        · exact Nat.le_succ_of_le (ih x (List.mem_cons_of_mem _ h))
theorem words_mem {s x : Bs} (h : x ∈ (wordsS s).1) : x.length ≤ s.length := by
  unfold wordsS at h
  split at h
  · cases h
  · exact splitS_mem h
theorem lines_mem {s x : Bs} (h : x ∈ (linesS s).1) : x.length ≤ s.length := by
  unfold linesS at h
  split at h
  · exact splitS_mem (c := 10) ((List.dropLast_sublist _).subset h)
  · cases h
theorem note_len (s : Bs) : (noteS s).1.length ≤ s.length := by
  unfold noteS
  split
  · exact Nat.le_refl _
  · split
    · exact Nat.zero_le _
    · have h1 := cutA_len s 59
      have h2 : (Lib.trimSuffix (cutA s 59) [32]).length ≤ (cutA s 59).length := by
        unfold Lib.trimSuffix
        split
        · rw [List.length_take]; omega
        · exact Nat.le_refl _
      show (Lib.trimSuffix (cutA s 59) [32]).length ≤ _
      omega
/-! The reference's tables. -/
def nameB (v : Val) : Bool := rightV v && (decide (v.k = 1) || decide (v.k = 2))
def nameE (s : Bs) : Int := if ((parseV s).2 = 0 ∧ nameB (parseV s).1 = false) then 2 else (parseV s).2
/-! The readings of the two: word by word. -/
section
variable {l : List Bs} {a k o : Bs}
variable (h3 : l[3]? = some a) (hm : ¬ (modelS a).1 = 0)
include h3 hm
variable (h4 : l[4]? = some k) (hk : nameE k = 0)
include h4 hk
variable (h5 : l[5]? = some o) (ho : (findS (modelS a).1 (opS o).1).2 = true)
include h5 ho
variable {i : Nat} {xs : List Val} {ds : List Int} (hd : ds = doms (findS (modelS a).1 (opS o).1).1.ins) (ha : argsL ds (l.drop 6) 0 = (xs ++ (argsL (ds.drop i) (l.drop (6 + i)) 0).1, (argsL (ds.drop i) (l.drop (6 + i)) 0).2))
include hd ha
omit h3 hm h4 hk h5 ho hd in
end
/-! A whole line. -/
section
variable {l : List Bs} {a c t : Bs}
def C9 (a : Bs) : Except Int Int := countS a 9223372036854775807
variable (h0 : l[0]? = some a) (he : erv (C9 a) = 0)
include h0 he
variable (h1 : l[1]? = some c) (hc : nameE c = 0)
include h1 hc
variable (h2 : l[2]? = some t)
include h2
end
theorem words_pos {s : Bs} (h : (wordsS s).2 = 0) : 0 < (wordsS s).1.length := by
  unfold wordsS at h ⊢
  split
  · rename_i hm; rw [if_pos hm] at h; cases h
  · exact List.length_pos_iff.2 (splitS_ne _ _)
theorem note_behind {s nt : Bs} (h1 : ∀ j (hj : j < s.length), ¬ s[j] = 59) (h2 : ∀ j (hj : j < nt.length), ¬ nt[j] = 10) (h3 : nt.length ≤ 100) : noteS (s ++ [32, 59] ++ nt) = (s, nt, true, 0) := by
  have e : s ++ [32, 59] ++ nt = s ++ 32 :: 59 :: nt := by simp
  rw [e]
  have hlen : (s ++ 32 :: 59 :: nt).length = s.length + 2 + nt.length := by simp; omega
  have at0 : (s ++ 32 :: 59 :: nt)[s.length + 1]'(by omega) = 59 := by
    rw [List.getElem_append_right (by omega)]; simp
  rw [note_at (i := s.length + 1) (by omega) at0]
  · have e1 : (((s.length + 1 : Nat) : Int) + 1).toNat = s.length + 2 := by omega
    have e2 : (((s.length + 1 : Nat) : Int) - 1).toNat = s.length := by omega
    have e3 : (s ++ 32 :: 59 :: nt).drop (s.length + 2) = nt := by
      rw [List.drop_append]
      simp
    have e4 : (s ++ 32 :: 59 :: nt).take s.length = s := by simp
    have e5 : bt (s ++ 32 :: 59 :: nt) (((s.length + 1 : Nat) : Int) - 1) = 32 := by
      rw [show ((s.length + 1 : Nat) : Int) - 1 = ((s.length : Nat) : Int) by omega, bt_nat (by omega), List.getElem_append_right (by omega)]
      simp
    rw [e1, e2, e3, e4, e5, if_neg]
    have e6 : Lib.indexByte nt 10 = -1 := idx_none h2
    rw [e6]
    rintro ((h | h) | h | h)
    · omega
    · exact h rfl
    · omega
    · omega
  · intro j hj
    by_cases hjs : j < s.length
    · rw [List.getElem_append_left hjs]; exact h1 j hjs
    · obtain rfl : j = s.length := by omega
      rw [List.getElem_append_right (by omega)]
      simp
theorem printV_len {v : Val} (h : I64 v.n) : (printV v).length ≤ 40 := by
  unfold printV
  split
  · decide
  rename_i hr
  split
  · decide
  split
  · have := Lib.itoa_length_le v.n h.1 h.2; omega
  split
  · rename_i h0 h1 h2
    have hr2 : rightV v = true := by simpa using hr
    unfold rightV at hr2
    rw [if_neg h0, if_neg h1, if_pos h2] at hr2
    simp only [isWordB, Bool.and_eq_true, decide_eq_true_eq] at hr2
    exact hr2.2.1.2
  split
  · decide
  · decide
/-! What Great counts. -/
theorem wr64 (n : Int) : I64 (IntKind.i64.wrap n) := by
  rw [IntKind.wrap_i64]
  exact ⟨by omega, by omega⟩
theorem nl_no {s : Bs} (h : ∀ j (hj : j < s.length), ¬ s[j] = 10) : decide (0 ≤ Lib.indexByte s 10) = false := by rw [idx_none h]; rfl
theorem nl_yes {s : Bs} {i : Nat} (hi : i < s.length) (h : s[i] = 10) : decide (0 ≤ Lib.indexByte s 10) = true := decide_eq_true (idx_pos hi h)
end Go.Proofs.YtngoaapgdfohjaaGreatDoor.T28
