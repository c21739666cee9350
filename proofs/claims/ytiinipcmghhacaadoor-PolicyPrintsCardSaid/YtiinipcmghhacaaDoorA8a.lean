/- Chapter 25 walked: words, lines, kinds. -/
import Derived.Test.YtiinipcmghhacaaDoorX21
import Derived.Test.YtiinipcmghhacaaDoorL10
import Derived.Test.YtiinipcmghhacaaDoorN1
import Derived.Test.YtiinipcmghhacaaDoorN2
import Derived.Test.YtiinipcmghhacaaDoorN4
import Derived.Test.YtiinipcmghhacaaDoorProg
set_option linter.unusedVariables false
set_option linter.unusedSimpArgs false
namespace Go.Proofs.YtiinipcmghhacaaDoor.T10
open Go Go.Proofs.YtiinipcmghhacaaDoor.X
theorem T.a23 : aggSz Tryd.prog 23 = some 2 := by kernel_rfl
theorem T.a26 : aggSz Tryd.prog 26 = some 14 := by kernel_rfl
theorem T.a86 : aggSz Tryd.prog 86 = some 5 := by kernel_rfl
theorem T.b79_9 : b2s Tryd.prog 79 9 = true := by kernel_rfl
theorem T.c159_2 : convOk Tryd.prog 159 2 .i64 = true := by kernel_rfl
theorem T.c2_159 : convOk Tryd.prog 2 159 .u64 = true := by kernel_rfl
theorem T.c2_5 : convOk Tryd.prog 2 5 .u8 = true := by kernel_rfl
theorem T.c5_159 : convOk Tryd.prog 5 159 .u64 = true := by kernel_rfl
theorem T.f23_0 : fieldOff Tryd.prog 23 0 = some 0 := by kernel_rfl
theorem T.f23_1 : fieldOff Tryd.prog 23 1 = some 1 := by kernel_rfl
theorem T.f26_0 : fieldOff Tryd.prog 26 0 = some 0 := by kernel_rfl
theorem T.f26_1 : fieldOff Tryd.prog 26 1 = some 10 := by kernel_rfl
theorem T.f26_2 : fieldOff Tryd.prog 26 2 = some 11 := by kernel_rfl
theorem T.f26_3 : fieldOff Tryd.prog 26 3 = some 12 := by kernel_rfl
theorem T.f26_4 : fieldOff Tryd.prog 26 4 = some 13 := by kernel_rfl
theorem T.g111 : goFn Tryd.prog 111 = true := by kernel_rfl
theorem T.g112 : goFn Tryd.prog 112 = true := by kernel_rfl
theorem T.g113 : goFn Tryd.prog 113 = true := by kernel_rfl
theorem T.g132 : goFn Tryd.prog 132 = true := by kernel_rfl
theorem T.g34 : goFn Tryd.prog 34 = true := by kernel_rfl
theorem T.g35 : goFn Tryd.prog 35 = true := by kernel_rfl
theorem T.g41 : goFn Tryd.prog 41 = true := by kernel_rfl
theorem T.g67 : goFn Tryd.prog 67 = true := by kernel_rfl
theorem T.g68 : goFn Tryd.prog 68 = true := by kernel_rfl
theorem T.g71 : goFn Tryd.prog 71 = true := by kernel_rfl
theorem T.g72 : goFn Tryd.prog 72 = true := by kernel_rfl
theorem T.g77 : goFn Tryd.prog 77 = true := by kernel_rfl
theorem T.g78 : goFn Tryd.prog 78 = true := by kernel_rfl
theorem T.g84 : goFn Tryd.prog 84 = true := by kernel_rfl
theorem T.i20 : Tryd.prog.underlying 20 = some (.interface (Tryd.prog.methodsAt 20)) := by kernel_rfl
theorem T.l29 : slOf Tryd.prog 29 = some (9, 1) := by kernel_rfl
theorem T.l79 : slOf Tryd.prog 79 = some (5, 1) := by kernel_rfl
theorem T.mix : Tryd.prog.follows .mixedOrders = true := by kernel_rfl
theorem T.n31 : notIf Tryd.prog 31 = true := by kernel_rfl
theorem T.p29 : apOf Tryd.prog 29 = some (9, 1, 16) := by kernel_rfl
theorem T.r24 : arrOf Tryd.prog 24 = some (5, 2) := by kernel_rfl
theorem T.r86 : arrOf Tryd.prog 86 = some (5, 1) := by kernel_rfl
theorem T.s124 : scal Tryd.prog 124 = true := by kernel_rfl
theorem T.s2 : scal Tryd.prog 2 = true := by kernel_rfl
theorem T.s3 : scal Tryd.prog 3 = true := by kernel_rfl
theorem T.s31 : scal Tryd.prog 31 = true := by kernel_rfl
theorem T.s4 : scal Tryd.prog 4 = true := by kernel_rfl
theorem T.s9 : scal Tryd.prog 9 = true := by kernel_rfl
theorem T.z2 : zeroOf Tryd.prog 2 = some (.int .i64 0) := by kernel_rfl
theorem T.z23 : zeroOf Tryd.prog 23 = some (.agg #[.int .i64 0, .int .i64 0]) := by kernel_rfl
theorem T.z26 : zeroOf Tryd.prog 26 = some (.agg #[.int .i64 0, .int .i64 0, .int .i64 0, .int .i64 0, .int .i64 0, .int .i64 0, .int .i64 0, .int .i64 0, .int .i64 0, .int .i64 0, .int .i64 0, .int .i64 0, .bool false, .bool false]) := by kernel_rfl
theorem T.z31 : zeroOf Tryd.prog 31 = some (.int .i64 0) := by kernel_rfl

def sizeS (s : Bs) (most : Int) : Except Int Int := if digitsB s = true then (if (dv s : Int) ≤ most then .ok (dv s) else .error 3) else .error 2
def countS (s : Bs) (most : Int) : Except Int Int := match sizeS s 9223372036854775807 with
  | .error e => .error e
  | .ok n => if most < 0 ∨ most < n then .error 3 else .ok n
def parseS (s : Bs) : Except Int Int :=
  if s = [] ∨ bt s 0 ≠ 45 then sizeS s 9223372036854775807
  else match sizeS (s.drop 1) 9223372036854775808 with
    | .error e => .error e
    | .ok n => if n = 0 then .error 2 else .ok (-n)
theorem dig_of {s : Bs} {i : Nat} (hi : i < s.length) (h1 : 48 ≤ bt s i) (h2 : bt s i ≤ 57) : digB s[i] = true := by
  rw [bt_nat hi] at h1 h2
  simp only [digB, Bool.and_eq_true, decide_eq_true_eq]
  omega
theorem dig_at {s : Bs} (h : s.all digB = true) {i : Nat} (hi : i < s.length) : 48 ≤ bt s i ∧ bt s i ≤ 57 := by
  have := List.all_eq_true.1 h _ (List.getElem_mem hi)
  simp only [digB, Bool.and_eq_true, decide_eq_true_eq] at this
  rw [bt_nat hi]
  omega
theorem digits_all {s : Bs} (h : digitsB s = true) : s.all digB = true := by simp only [digitsB, Bool.and_eq_true] at h; exact h.1
theorem digits_pos {s : Bs} (h : digitsB s = true) : 0 < s.length := by simp only [digitsB, Bool.and_eq_true, decide_eq_true_eq] at h; exact h.2.1
theorem digits_no {s : Bs} {i : Nat} (hi : i < s.length) (h : bt s i < 48 ∨ 57 < bt s i) : digitsB s = false := by
  cases hd : digitsB s with
  | false => rfl
  | true => have := dig_at (digits_all hd) hi; omega
theorem digits_eq {s : Bs} (h : s.all digB = true) : (decide (0 < (s.length : Int)) && (decide ((s.length : Int) = 1) || !decide (bt s 0 = 48))) = digitsB s := by
  unfold digitsB
  rw [h, Bool.true_and]
  have e1 : decide (0 < (s.length : Int)) = decide (0 < s.length) := decide_eq_decide.2 (by omega)
  have e2 : decide ((s.length : Int) = 1) = decide (s.length = 1) := decide_eq_decide.2 (by omega)
  rw [e1, e2]
theorem digits_of {s : Bs} (h : s.all digB = true) (h1 : ¬ s = []) (h2 : ¬ bt s 0 = 48 ∨ ¬ 1 < (s.length : Int)) : digitsB s = true := by
  rw [← digits_eq h]
  have h0 : 0 < s.length := List.length_pos_iff.2 h1
  simp only [Bool.and_eq_true, Bool.or_eq_true, decide_eq_true_eq, Bool.not_eq_true', decide_eq_false_iff_not]
  refine ⟨by omega, ?_⟩
  rcases h2 with h2 | h2
  · exact .inr h2
  · exact .inl (by omega)
theorem size_no {s : Bs} {most : Int} (h : digitsB s = false) : sizeS s most = .error 2 := by simp [sizeS, h]
theorem size_e2a {s : Bs} {most : Int} (h : s = [] ∨ bt s 0 = 48 ∧ 1 < (s.length : Int)) : sizeS s most = .error 2 := by
  refine size_no ?_
  cases hd : digitsB s with
  | false => rfl
  | true =>
    have h0 := digits_pos hd
    have h1 := digits_all hd
    rw [← digits_eq h1] at hd
    simp only [Bool.and_eq_true, Bool.or_eq_true, decide_eq_true_eq, Bool.not_eq_true', decide_eq_false_iff_not] at hd
    rcases h with rfl | h
    · simp at h0
    · omega
theorem size_e2b {s : Bs} {most : Int} {i : Nat} (hi : i < s.length) (h : bt s i < 48 ∨ 57 < bt s i) : sizeS s most = .error 2 := size_no (digits_no hi h)
theorem dv_step {s : Bs} (h : s.all digB = true) {j : Nat} (hj : j < s.length) : ((dv (s.take (j + 1)) : Nat) : Int) = (dv (s.take j) : Int) * 10 + (bt s j - 48) := by
  have := dig_at h hj
  rw [bt_nat hj] at this ⊢
  rw [dv_take hj]
  omega
theorem size_e3 {s : Bs} {most : Int} (hd : digitsB s = true) {j : Nat} (hj : j < s.length) (h : most < (dv (s.take j) : Int) * 10 + (bt s j - 48)) : sizeS s most = .error 3 := by
  rw [← dv_step (digits_all hd) hj] at h
  have := dv_mono s (j + 1)
  unfold sizeS
  rw [if_pos hd, if_neg (by omega)]
theorem size_ok {s : Bs} {most : Int} (hd : digitsB s = true) (h : (dv s : Int) ≤ most) : sizeS s most = .ok (dv s : Int) := by
  unfold sizeS
  rw [if_pos hd, if_pos h]
theorem size_bound {s : Bs} {most n : Int} (h : sizeS s most = .ok n) : 0 ≤ n ∧ n ≤ most := by
  unfold sizeS at h
  split at h
  · split at h
    · cases h; omega
    · cases h
  · cases h
def maxP : Bs := [57, 50, 50, 51, 51, 55, 50, 48, 51, 54, 56, 53, 52, 55, 55, 53, 56, 48, 55]
def maxN : Bs := [57, 50, 50, 51, 51, 55, 50, 48, 51, 54, 56, 53, 52, 55, 55, 53, 56, 48, 56]
theorem least_p {s : Bs} (h : digitsB s = true) : leastB s maxP = decide ((dv s : Int) ≤ 9223372036854775807) := by
  rw [least_iff h (by decide), show dv maxP = 9223372036854775807 by decide]
  exact decide_eq_decide.2 (by omega)
theorem least_n {s : Bs} (h : digitsB s = true) : leastB s maxN = decide ((dv s : Int) ≤ 9223372036854775808) := by
  rw [least_iff h (by decide), show dv maxN = 9223372036854775808 by decide]
  exact decide_eq_decide.2 (by omega)
theorem dv_zero {s : Bs} (hd : digitsB s = true) (hn : ¬ s = [48]) : ¬ (dv s : Int) = 0 := by
  intro e
  have h1 := digits_all hd
  have h0 := digits_pos hd
  rcases Nat.lt_or_ge 1 s.length with h | h
  · have := dv_ge hd h
    have := Nat.pow_pos (a := 10) (n := s.length - 1) (by decide)
    omega
  · match s, h0, h with
    | [b], _, _ =>
      have h2 := dig_at h1 (i := 0) (by simp)
      have h3 : bt [b] ((0 : Nat) : Int) = (b.toNat : Int) := rfl
      rw [h3] at h2
      have h4 : dv [b] = 0 * 10 + (b.toNat - 48) := rfl
      have h5 : b.toNat = 48 := by omega
      exact hn (by rw [show b = 48 from UInt8.toNat_inj.1 h5])
theorem size_big {s : Bs} {most : Int} (hd : digitsB s = true) (h : ¬ (dv s : Int) ≤ most) : sizeS s most = .error 3 := by
  unfold sizeS
  rw [if_pos hd, if_neg h]
theorem parse_neg {s : Bs} (h0 : 0 < (s.length : Int) ∧ bt s 0 = 45) : parseS s = match sizeS (s.drop 1) 9223372036854775808 with
    | .error e => .error e
    | .ok n => if n = 0 then .error 2 else .ok (-n) := by
  unfold parseS
  rw [if_neg]
  rintro (h | h)
  · subst h; simp at h0
  · exact h h0.2
theorem parse_pos {s : Bs} (h0 : ¬ 0 < (s.length : Int) ∨ ¬ bt s 0 = 45) : parseS s = sizeS s 9223372036854775807 := by
  unfold parseS
  rw [if_pos]
  rcases h0 with h | h
  · left; exact List.eq_nil_of_length_eq_zero (by omega)
  · exact .inr h
theorem parse_n2 {s : Bs} (h0 : 0 < (s.length : Int) ∧ bt s 0 = 45) (h : digitsB (s.drop 1) = false ∨ s.drop 1 = [48]) : parseS s = .error 2 := by
  rw [parse_neg h0]
  rcases h with h | h
  · rw [size_no h]
  · rw [h]; rfl
theorem parse_n3 {s : Bs} (h0 : 0 < (s.length : Int) ∧ bt s 0 = 45) (hd : digitsB (s.drop 1) = true) (hl : leastB (s.drop 1) maxN = false) : parseS s = .error 3 := by
  rw [parse_neg h0]
  rw [least_n hd, decide_eq_false_iff_not] at hl
  rw [size_big hd hl]
theorem parse_nok {s : Bs} (h0 : 0 < (s.length : Int) ∧ bt s 0 = 45) (hd : digitsB (s.drop 1) = true) (hn : ¬ s.drop 1 = [48]) (hb : (dv (s.drop 1) : Int) ≤ 9223372036854775808) : parseS s = .ok (-(dv (s.drop 1) : Int)) := by
  rw [parse_neg h0, size_ok hd hb]
  exact if_neg (dv_zero hd hn)
theorem parse_p3 {s : Bs} (h0 : ¬ 0 < (s.length : Int) ∨ ¬ bt s 0 = 45) (hd : digitsB s = true) (hl : leastB s maxP = false) : parseS s = .error 3 := by
  rw [least_p hd, decide_eq_false_iff_not] at hl
  rw [parse_pos h0, size_big hd hl]
theorem count_digits {s : Bs} {most : Int} (hd : digitsB s = true) : countS s most = if ¬ erv (parseS s) = 0 ∨ most < okv (parseS s) then .error 3 else .ok (okv (parseS s)) := by
  have h1 := dig_at (digits_all hd) (i := 0) (digits_pos hd)
  have e : parseS s = sizeS s 9223372036854775807 := parse_pos (.inr (by
    have : bt s ((0 : Nat) : Int) = bt s 0 := rfl
    omega))
  unfold countS
  rw [e]
  by_cases hb : (dv s : Int) ≤ 9223372036854775807
  · rw [size_ok hd hb]
    show (if most < 0 ∨ most < (dv s : Int) then Except.error 3 else Except.ok (dv s : Int)) = if ¬ (0 : Int) = 0 ∨ most < (dv s : Int) then Except.error 3 else Except.ok (dv s : Int)
    by_cases h : most < (dv s : Int)
    · rw [if_pos (.inr h), if_pos (.inr h)]
    · rw [if_neg (by omega), if_neg (by omega)]
  · rw [size_big hd hb]
    show Except.error 3 = if ¬ (3 : Int) = 0 ∨ most < 0 then Except.error 3 else Except.ok 0
    rw [if_pos (.inl (by decide))]
theorem drop_len {s : Bs} (h : 0 < (s.length : Int)) : (s.drop 1).length + 1 = s.length := by simp; omega

def lowB (c : Int) : Bool := decide (97 ≤ c) && decide (c ≤ 122)
def letterB (c : Int) (first : Bool) : Bool := lowB c || (!first && (decide (c = 95) || (decide (48 ≤ c) && decide (c ≤ 57))))
theorem letter_eq (c : Int) : (((decide (97 ≤ c) && decide (c ≤ 122)) || (decide (48 ≤ c) && decide (c ≤ 57))) || decide (c = 95)) = letterB c false := by
  unfold letterB lowB
  cases decide (97 ≤ c) <;> cases decide (c ≤ 122) <;> cases decide (48 ≤ c) <;> cases decide (c ≤ 57) <;> cases decide (c = 95) <;> rfl
def isWordB (s : Bs) : Bool := (decide (1 ≤ s.length) && decide (s.length ≤ 40)) && (lowB (bt s 0) && s.all fun c => letterB (c.toNat : Int) false)
theorem all_snoc {α : Type} {p : α → Bool} {s : List α} {i : Nat} (h : i < s.length) : (s.take (i + 1)).all p = ((s.take i).all p && p s[i]) := by
  rw [List.take_add_one, List.getElem?_eq_getElem h, List.all_append]
  simp
theorem all_not {α : Type} {p : α → Bool} {s : List α} {i : Nat} (h : i < s.length) (hp : p s[i] = false) : s.all p = false := by
  cases ha : s.all p with
  | false => rfl
  | true => rw [List.all_eq_true.1 ha _ (List.getElem_mem h)] at hp; cases hp
def wordC (c : UInt8) : Bool := letterB (c.toNat : Int) false
theorem word_def (s : Bs) : isWordB s = ((decide (1 ≤ s.length) && decide (s.length ≤ 40)) && (lowB (bt s 0) && s.all wordC)) := rfl
theorem word_ref_no {s : Bs} {i : Nat} (hi : i < s.length) (h : letterB (bt s (i : Int)) (decide ((i : Int) = 0)) = false) : isWordB s = false := by
  by_cases h0 : i = 0
  · subst h0
    have e : bt s ((0 : Nat) : Int) = bt s 0 := rfl
    rw [e] at h
    have hl : lowB (bt s 0) = false := by
      simp only [letterB, Bool.or_eq_false_iff] at h
      exact h.1
    rw [word_def, hl]; simp
  · have e : decide ((i : Int) = 0) = false := by simp; omega
    rw [e] at h
    rw [word_def, all_not hi (by unfold wordC; rw [← bt_nat hi]; exact h)]; simp
theorem word_ref {s : Bs} (ha : ∀ j, j < s.length → letterB (bt s (j : Int)) (decide ((j : Int) = 0)) = true) : (decide (1 ≤ (s.length : Int)) && decide ((s.length : Int) ≤ 40)) = isWordB s := by
  rw [word_def, show decide (1 ≤ (s.length : Int)) = decide (1 ≤ s.length) from decide_eq_decide.2 (by omega), show decide ((s.length : Int) ≤ 40) = decide (s.length ≤ 40) from decide_eq_decide.2 (by omega)]
  by_cases h0 : 1 ≤ s.length
  · have h1 : lowB (bt s 0) = true := by
      have := ha 0 (by omega)
      have e : bt s ((0 : Nat) : Int) = bt s 0 := rfl
      rw [e] at this
      simpa [letterB] using this
    have h2 : s.all wordC = true := by
      rw [List.all_eq_true]
      intro x hx
      obtain ⟨j, hj, rfl⟩ := List.mem_iff_getElem.1 hx
      have h3 := ha j hj
      rw [bt_nat hj] at h3
      unfold wordC
      by_cases e : j = 0
      · subst e
        simp only [letterB] at h3 ⊢
        simp at h3 ⊢
        exact .inl h3
      · have e2 : decide ((j : Int) = 0) = false := by simp; omega
        rw [e2] at h3
        exact h3
    rw [h1, h2]; simp
  · rw [decide_eq_false h0]; simp
def parseV (s : Bs) : Val × Int :=
  if s = [126] then (⟨0, 0, []⟩, 0) else if s = [84] then (⟨3, 1, []⟩, 0) else if s = [70] then (⟨3, 0, []⟩, 0)
  else if isWordB s = true then (⟨2, 0, s⟩, 0) else if ¬ erv (parseS s) = 0 then (⟨0, 0, []⟩, erv (parseS s)) else (⟨1, okv (parseS s), []⟩, 0)
theorem wordC_bt {s : Bs} {i : Nat} (h : i < s.length) : wordC s[i] = letterB (bt s i) false := by unfold wordC; rw [bt_nat h]
theorem word_len {s : Bs} (h : s = [] ∨ 40 < (s.length : Int)) : isWordB s = false := by
  rw [word_def]
  have : (decide (1 ≤ s.length) && decide (s.length ≤ 40)) = false := by
    simp only [Bool.and_eq_false_iff, decide_eq_false_iff_not]
    rcases h with rfl | h
    · left; simp
    · right; omega
  rw [this]; rfl
theorem word_first {s : Bs} (h : bt s 0 < 97 ∨ 122 < bt s 0) : isWordB s = false := by
  rw [word_def]
  have : lowB (bt s 0) = false := by simp only [lowB, Bool.and_eq_false_iff, decide_eq_false_iff_not]; omega
  rw [this]; simp
theorem word_at {s : Bs} {i : Nat} (hi : i < s.length) (h : letterB (bt s i) false = false) : isWordB s = false := by
  rw [word_def, all_not hi (by rw [wordC_bt hi]; exact h)]; simp
theorem word_yes {s : Bs} (h0 : ¬ s = []) (h1 : ¬ 40 < (s.length : Int)) (h2 : ¬ bt s 0 < 97) (h3 : ¬ 122 < bt s 0) (h4 : s.all wordC = true) : isWordB s = true := by
  have := List.length_pos_iff.2 h0
  rw [word_def, h4]
  simp only [lowB, Bool.and_true, Bool.and_eq_true, decide_eq_true_eq]
  omega
theorem ok_size {s : Bs} {most n : Int} (h : sizeS s most = .ok n) : digitsB s = true ∧ n = (dv s : Int) := by
  unfold sizeS at h
  split at h
  · rename_i hd
    split at h
    · cases h; exact ⟨hd, rfl⟩
    · cases h
  · cases h
theorem size_err {s : Bs} {most e : Int} (h : sizeS s most = .error e) : ¬ e = 0 := by
  unfold sizeS at h
  split at h
  · split at h
    · cases h
    · cases h; decide
  · cases h; decide
theorem parse_err {s : Bs} {e : Int} (h : parseS s = .error e) : ¬ e = 0 := by
  unfold parseS at h
  split at h
  · exact size_err h
  · split at h
    · rename_i hm; cases h; exact size_err hm
    · split at h
      · cases h; decide
      · cases h
theorem bt0 {b : UInt8} {s : Bs} : bt (b :: s) 0 = (b.toNat : Int) := rfl
theorem dd_not45 (k : Nat) : ¬ bt (dd k) 0 = 45 := by
  have h := dig_at (dd_all k) (i := 0) (dd_pos k)
  have e : bt (dd k) ((0 : Nat) : Int) = bt (dd k) 0 := rfl
  rw [e] at h
  omega
theorem parse_itoa {n : Int} (hn : -9223372036854775808 ≤ n ∧ n ≤ 9223372036854775807) : parseS (Lib.itoa n) = .ok n := by
  by_cases h : 0 ≤ n
  · rw [itoa_nn h, parse_pos (.inr (dd_not45 _)), size_ok (dd_digits _) (by rw [dd_dv]; omega), dd_dv]
    rw [show ((n.toNat : Nat) : Int) = n by omega]
  · rw [itoa_ng (by omega)]
    rw [parse_nok (s := 45 :: dd n.natAbs) ⟨by simp, rfl⟩ (dd_digits _) (fun e => by
      have e1 : dd n.natAbs = [48] := e
      have := dd_dv n.natAbs
      rw [e1] at this
      have e2 : dv [48] = 0 := rfl
      omega) (by show (dv (dd n.natAbs) : Int) ≤ _; rw [dd_dv]; omega)]
    show Except.ok (-(dv (dd n.natAbs) : Int)) = _
    rw [dd_dv]
    congr 1
    omega
theorem itoa_parse {s : Bs} {n : Int} (h : parseS s = .ok n) : Lib.itoa n = s := by
  unfold parseS at h
  split at h
  · obtain ⟨hd, rfl⟩ := ok_size h
    rw [itoa_nn (by omega)]
    exact dd_of hd
  · rename_i hc
    simp only [not_or, ne_eq, Classical.not_not] at hc
    split at h
    · cases h
    · rename_i m hm
      split at h
      · cases h
      · rename_i h0
        cases h
        obtain ⟨hd, rfl⟩ := ok_size hm
        rw [itoa_ng (by omega), show (-(dv (s.drop 1) : Int)).natAbs = dv (s.drop 1) by omega, dd_of hd]
        match s, hc with
        | b :: r, hc =>
          have e : b = 45 := UInt8.toNat_inj.1 (by have := hc.2; rw [bt0] at this; simp; omega)
          rw [e]; rfl
theorem parse_range {s : Bs} {n : Int} (h : parseS s = .ok n) : -9223372036854775808 ≤ n ∧ n ≤ 9223372036854775807 := by
  unfold parseS at h
  split at h
  · have := size_bound h; omega
  · split at h
    · cases h
    · rename_i hm
      split at h
      · cases h
      · cases h
        have := size_bound hm
        omega
theorem okv_range {s : Bs} : I64 (okv (parseS s)) := by
  cases hp : parseS s with
  | error e => exact (by decide : I64 0)
  | ok n => exact parse_range hp
theorem itoa_inj {a b : Int} (ha : I64 a) (hb : I64 b) (h : Lib.itoa a = Lib.itoa b) : a = b := by
  have h1 := parse_itoa ha
  rw [h, parse_itoa hb] at h1
  cases h1; rfl
theorem itoa_eq {a b : Int} (ha : I64 a) (hb : I64 b) : (Lib.itoa a == Lib.itoa b) = decide (a = b) := by
  by_cases h : a = b
  · subst h; simp
  · rw [decide_eq_false h]
    simp only [beq_eq_false_iff_ne, ne_eq]
    exact fun e => h (itoa_inj ha hb e)
theorem itoa_len {a b : Int} (ha : ¬ a < 0) (hb : ¬ b < 0) (h : a ≤ b) : (Lib.itoa a).length ≤ (Lib.itoa b).length := by
  rw [itoa_nn (by omega), itoa_nn (by omega)]
  have h1 := least_iff (dd_digits a.toNat) (dd_digits b.toNat)
  rw [dd_dv, dd_dv, decide_eq_true (show a.toNat ≤ b.toNat by omega)] at h1
  unfold leastB at h1
  simp only [Bool.or_eq_true, Bool.and_eq_true, decide_eq_true_eq] at h1
  omega
def rightV (v : Val) : Bool :=
  if v.k = 0 then decide (v.n = 0) && v.s == [] else if v.k = 1 then v.s == [] else if v.k = 2 then decide (v.n = 0) && isWordB v.s
  else if v.k = 3 then (decide (v.n = 0) || decide (v.n = 1)) && v.s == [] else false
def printV (v : Val) : Bs :=
  if rightV v = false then [] else if v.k = 0 then [126] else if v.k = 1 then Lib.itoa v.n else if v.k = 2 then v.s else if v.n = 1 then [84] else [70]
theorem right3 {x : Val} (h : rightV x = true) (h0 : ¬ x.k = 0) (h1 : ¬ x.k = 1) (h2 : ¬ x.k = 2) : x.k = 3 ∧ x.s = [] := by
  unfold rightV at h
  rw [if_neg h0, if_neg h1, if_neg h2] at h
  split at h
  · rename_i h3
    simp only [Bool.and_eq_true, beq_iff_eq] at h
    exact ⟨h3, h.2⟩
  · cases h
theorem right0 {x : Val} (h : rightV x = true) (h1 : ¬ x.k = 1) (h2 : ¬ x.k = 2) (h3 : ¬ x.k = 3) : x.k = 0 := by
  by_cases h0 : x.k = 0
  · exact h0
  · exact absurd (right3 h h0 h1 h2).1 h3
theorem print_len {x : Val} (hv : x.Wf) : (printV x).length ≤ 9223372036854775807 := by
  unfold printV
  split
  · decide
  split
  · decide
  split
  · have := Lib.itoa_length_le x.n hv.n.1 hv.n.2; omega
  split
  · exact hv.s
  split
  · decide
  · decide
theorem parse_wf {s : Bs} (hl : s.length ≤ 9223372036854775807) : (parseV s).1.Wf := by
  have h0 : I64 0 := by decide
  have h3 : I64 3 := by decide
  have h1 : I64 1 := by decide
  have h2 : I64 2 := by decide
  have hz : ([] : Bs).length ≤ 9223372036854775807 := by decide
  unfold parseV
  split
  · exact ⟨h0, h0, hz⟩
  split
  · exact ⟨h3, h1, hz⟩
  split
  · exact ⟨h3, h0, hz⟩
  split
  · exact ⟨h2, h0, hl⟩
  split
  · exact ⟨h0, h0, hz⟩
  · refine ⟨h1, ?_, hz⟩
    show I64 (okv (parseS s))
    cases hp : parseS s with
    | error e => exact h0
    | ok n => exact parse_range hp
theorem word_low {s : Bs} (h : isWordB s = true) : 97 ≤ bt s 0 ∧ bt s 0 ≤ 122 := by
  rw [word_def] at h
  simp only [lowB, Bool.and_eq_true, decide_eq_true_eq] at h
  exact h.2.1
theorem itoa_first {n : Int} : bt (Lib.itoa n) 0 = 45 ∨ (48 ≤ bt (Lib.itoa n) 0 ∧ bt (Lib.itoa n) 0 ≤ 57) := by
  by_cases h : 0 ≤ n
  · rw [itoa_nn h]
    exact .inr (dig_at (dd_all _) (i := 0) (dd_pos _))
  · rw [itoa_ng (by omega)]; exact .inl rfl
theorem itoa_noword {n : Int} : isWordB (Lib.itoa n) = false := by
  cases h : isWordB (Lib.itoa n) with
  | false => rfl
  | true => have := word_low h; have := itoa_first (n := n); omega
theorem bt_one (b : UInt8) : bt [b] 0 = (b.toNat : Int) := rfl
theorem parse_print {v : Val} (hn : -9223372036854775808 ≤ v.n ∧ v.n ≤ 9223372036854775807) (h : rightV v = true) : parseV (printV v) = (v, 0) := by
  obtain ⟨k, n, s⟩ := v
  unfold printV
  rw [if_neg (by rw [h]; decide)]
  unfold rightV at h
  dsimp only at h hn ⊢
  split at h
  · rename_i h1
    subst h1
    simp only [Bool.and_eq_true, decide_eq_true_eq, beq_iff_eq] at h
    obtain ⟨rfl, rfl⟩ := h
    rfl
  · rename_i h1
    rw [if_neg h1]
    split at h
    · rename_i h2
      subst h2
      rw [if_pos rfl]
      have hs : s = [] := by simpa using h
      subst hs
      have hf := itoa_first (n := n)
      unfold parseV
      rw [if_neg (fun e => by rw [e, bt_one] at hf; revert hf; decide), if_neg (fun e => by rw [e, bt_one] at hf; revert hf; decide), if_neg (fun e => by rw [e, bt_one] at hf; revert hf; decide), if_neg (by rw [itoa_noword]; decide), parse_itoa hn]
      rfl
    · rename_i h2
      rw [if_neg h2]
      split at h
      · rename_i h3
        subst h3
        rw [if_pos rfl]
        simp only [Bool.and_eq_true, decide_eq_true_eq] at h
        obtain ⟨rfl, hw⟩ := h
        have hf := word_low hw
        unfold parseV
        rw [if_neg (fun e => by rw [e, bt_one] at hf; revert hf; decide), if_neg (fun e => by rw [e, bt_one] at hf; revert hf; decide), if_neg (fun e => by rw [e, bt_one] at hf; revert hf; decide), if_pos hw]
      · rename_i h3
        rw [if_neg h3]
        split at h
        · rename_i h4
          subst h4
          simp only [Bool.and_eq_true, Bool.or_eq_true, decide_eq_true_eq, beq_iff_eq] at h
          obtain ⟨hn', rfl⟩ := h
          rcases hn' with rfl | rfl
          · rfl
          · rfl
        · cases h
theorem print_parse {s : Bs} (h : (parseV s).2 = 0) : rightV (parseV s).1 = true ∧ printV (parseV s).1 = s := by
  revert h
  unfold parseV
  split
  · rename_i h1; intro _; subst h1; exact ⟨rfl, rfl⟩
  split
  · rename_i h1; intro _; subst h1; exact ⟨rfl, rfl⟩
  split
  · rename_i h1; intro _; subst h1; exact ⟨rfl, rfl⟩
  split
  · rename_i hw
    intro _
    have hr : rightV ⟨2, 0, s⟩ = true := by show (decide ((0 : Int) = 0) && isWordB s) = true; rw [hw]; rfl
    refine ⟨hr, ?_⟩
    unfold printV
    rw [if_neg (by rw [hr]; decide)]
    rfl
  split
  · rename_i he; intro h; exact absurd h he
  · rename_i he
    intro _
    refine ⟨rfl, ?_⟩
    simp only [Classical.not_not] at he
    show Lib.itoa (okv (parseS s)) = s
    cases hp : parseS s with
    | error e =>
      rw [hp] at he
      have he' : e = 0 := he
      exfalso
      exact parse_err hp he'
    | ok n => exact itoa_parse hp

theorem take_snoc_eq {α : Type} {a b : List α} {i : Nat} (h : a.take i = b.take i) (ha : i < a.length) (hb : i < b.length) (e : a[i] = b[i]) : a.take (i + 1) = b.take (i + 1) := by
  rw [List.take_add_one, List.take_add_one, h, List.getElem?_eq_getElem ha, List.getElem?_eq_getElem hb, e]
/-- What a line has, and its note; the fault. -/
def noteS (s : Bs) : Bs × Bs × Bool × Int :=
  if cutF s 59 = false then (s, [], false, 0)
  else if (!Lib.hasSuffix (cutA s 59) [32]) = true ∨ 100 < ((cutB s 59).length : Int) ∨ 0 ≤ Lib.indexByte (cutB s 59) 10 then ([], [], false, 2)
  else (Lib.trimSuffix (cutA s 59) [32], cutB s 59, true, 0)
theorem cutA_len (s : Bs) (c : UInt8) : (cutA s c).length ≤ s.length := by
  unfold cutA
  rcases index_two s c with h | ⟨i, h⟩
  · rw [cut_none h]; exact Nat.le_refl _
  · rw [cut_some h, List.length_take]; omega
theorem cutB_len (s : Bs) (c : UInt8) : (cutB s c).length ≤ s.length := by
  unfold cutB
  rcases index_two s c with h | ⟨i, h⟩
  · rw [cut_none h]; exact Nat.zero_le _
  · rw [cut_some h, List.length_drop]; omega
theorem idx_none {s : Bs} {c : UInt8} (h : ∀ j (hj : j < s.length), ¬ s[j] = c) : Lib.indexByte s c = -1 := by
  induction s with
  | nil => rfl
  | cons b r ih =>
    have h0 := h 0 (by simp)
    have hr := ih fun j hj => h (j + 1) (by simpa using hj)
    simp only [List.getElem_cons_zero] at h0
    unfold Lib.indexByte
    rw [hr]
    simp [h0]
theorem idx_at {s : Bs} {c : UInt8} {i : Nat} (hi : i < s.length) (he : s[i] = c) (h : ∀ j (hj : j < i), ¬ s[j]'(by omega) = c) : Lib.indexByte s c = (i : Int) := by
  induction s generalizing i with
  | nil => simp at hi
  | cons b r ih =>
    unfold Lib.indexByte
    cases i with
    | zero =>
      have : b = c := he
      simp [this]
    | succ i =>
      have h0 := h 0 (by omega)
      simp only [List.getElem_cons_zero] at h0
      have hr := ih (i := i) (by simpa using hi) (by simpa using he) fun j hj => by have := h (j + 1) (by omega); simpa using this
      rw [hr]
      have hb : (b == c) = false := by simpa using h0
      have hx : (((i : Nat) : Int) == -1) = false := by
        simp only [beq_eq_false_iff_ne, ne_eq]; omega
      rw [hb, hx]
      simp
theorem idx_pos {s : Bs} {c : UInt8} {i : Nat} (hi : i < s.length) (he : s[i] = c) : 0 ≤ Lib.indexByte s c := by
  rcases index_two s c with h | ⟨k, h⟩
  · exfalso
    induction s generalizing i with
    | nil => simp at hi
    | cons b r ih =>
      unfold Lib.indexByte at h
      split at h
      · cases h
      · rename_i hb
        have hr : Lib.indexByte r c = -1 := by
          split at h
          · rename_i h2; simpa using h2
          · have := Lib.indexByte_ge r c; omega
        cases i with
        | zero => exact hb (by simpa using he)
        | succ i => exact ih (i := i) (by simpa using hi) (by simpa using he) hr
  · omega

theorem suff_snoc (q : Bs) (b c : UInt8) : Lib.hasSuffix (q ++ [b]) [c] = decide (b = c) := by
  unfold Lib.hasSuffix
  rw [Bool.eq_iff_iff, List.isSuffixOf_iff_suffix, decide_eq_true_eq]
  constructor
  · rintro ⟨t, h⟩
    exact (List.append_inj' h rfl).2 |> fun e => by simpa using e.symm
  · rintro rfl
    exact ⟨q, rfl⟩
theorem suff_nil (c : UInt8) : Lib.hasSuffix [] [c] = false := rfl
theorem trim_snoc (q : Bs) (c : UInt8) : Lib.trimSuffix (q ++ [c]) [c] = q := by
  unfold Lib.trimSuffix
  rw [suff_snoc, decide_eq_true rfl, if_pos rfl]
  simp
theorem note_none {s : Bs} {i : Nat} (h1 : s.length ≤ i) (ha : ∀ j (hj : j < s.length), ¬ s[j] = 59) : noteS s = (s, [], false, 0) := by
  unfold noteS cutF
  rw [cut_none (idx_none ha), if_pos rfl]
theorem note_at {s : Bs} {i : Nat} (hi : i < s.length) (he : s[i] = 59) (ha : ∀ j (hj : j < i), ¬ s[j]'(by omega) = 59) :
    noteS s = if ((i : Int) = 0 ∨ ¬ bt s ((i : Int) - 1) = 32) ∨ 100 < ((List.drop ((i : Int) + 1).toNat s).length : Int) ∨ 0 ≤ Lib.indexByte (List.drop ((i : Int) + 1).toNat s) 10 then ([], [], false, 2) else (List.take ((i : Int) - 1).toNat s, List.drop ((i : Int) + 1).toNat s, true, 0) := by
  have hc := cut_some (idx_at hi he ha)
  have e1 : ((i : Int) + 1).toNat = i + 1 := by omega
  unfold noteS cutF cutA cutB
  rw [hc, e1]
  dsimp only
  rw [if_neg (by decide)]
  rcases Nat.eq_zero_or_pos i with h0 | h0
  · subst h0
    rw [if_pos (by left; rfl), if_pos (by left; left; rfl)]
  · obtain ⟨k, rfl⟩ : ∃ k, i = k + 1 := ⟨i - 1, by omega⟩
    have e2 : (((k + 1 : Nat) : Int) - 1).toNat = k := by omega
    have e3 : s.take (k + 1) = s.take k ++ [s[k]] := take_snoc (by omega)
    have e4 : bt s (((k + 1 : Nat) : Int) - 1) = ((s[k].toNat : Nat) : Int) := by rw [show ((k + 1 : Nat) : Int) - 1 = (k : Int) by omega]; exact bt_nat (by omega)
    have e5 : (((k + 1 : Nat) : Int) = 0 ∨ ¬ bt s (((k + 1 : Nat) : Int) - 1) = 32) ↔ ¬ s[k] = 32 := by
      rw [e4]
      constructor
      · rintro (h | h)
        · omega
        · intro e; rw [e] at h; exact h rfl
      · intro h
        right
        intro e
        exact h (UInt8.toNat_inj.1 (by simpa using (by omega : s[k].toNat = 32)))
    rw [e2, e3, suff_snoc]
    by_cases hk : s[k] = 32
    · rw [hk, decide_eq_true rfl, trim_snoc]
      have : ¬ (((k + 1 : Nat) : Int) = 0 ∨ ¬ bt s (((k + 1 : Nat) : Int) - 1) = 32) := fun h => e5.1 h hk
      simp only [this, false_or, Bool.not_true, Bool.false_eq_true]
    · rw [decide_eq_false hk, if_pos (by left; rfl), if_pos (.inl (e5.2 hk))]

theorem note_cases (s : Bs) : (noteS s).2.2.2 = 0 ∨ noteS s = ([], [], false, 2) := by
  unfold noteS
  split
  · exact .inl rfl
  · split
    · exact .inr rfl
    · exact .inl rfl

def nb (b : UInt8) : Bool := !(b == 32)
def okW (x : Bs) : Bool := x.all nb && !(x == [])
theorem nb_step {x : Bs} {k : Nat} {Q : Bool} (hk : k < x.length) : (((x.take k).all nb && Q) && !decide (bt x ((k : Nat) : Int) = 32)) = ((x.take (k + 1)).all nb && Q) := by
  have e : (x.take (k + 1)).all nb = ((x.take k).all nb && nb x[k]) := by
    rw [List.take_add_one, List.getElem?_eq_getElem hk, List.all_append]; simp
  have e2 : (!decide (bt x ((k : Nat) : Int) = 32)) = nb x[k] := by
    unfold nb
    congr 1
    rw [bt_nat hk, Bool.eq_iff_iff, decide_eq_true_eq, beq_iff_eq]
    exact ⟨fun h => UInt8.toNat_inj.1 (by simpa using (by omega : x[k].toNat = 32)), fun h => by rw [h]; rfl⟩
  rw [e, e2]
  cases (x.take k).all nb <;> cases Q <;> cases nb x[k] <;> rfl
theorem okW_step {l : List Bs} {i k : Nat} {x : Bs} {D : Bool} (hi : i < l.length) (ex : l[i] = x) (hk : x.length ≤ k) : ((x.take k).all nb && (((l.take i).all okW && D) && !(x == []))) = ((l.take (i + 1)).all okW && D) := by
  have e : (l.take (i + 1)).all okW = ((l.take i).all okW && okW l[i]) := by
    rw [List.take_add_one, List.getElem?_eq_getElem hi, List.all_append]; simp
  rw [e, ex, List.take_of_length_le hk, show okW x = (x.all nb && !(x == [])) from rfl]
  cases x.all nb <;> cases D <;> cases (l.take i).all okW <;> cases (x == []) <;> rfl
theorem len_step {l : List Bs} {i : Nat} {x : Bs} (hi : i < l.length) (ex : l[i] = x) (h : ∀ x ∈ l.take i, x.length ≤ 100) (hx : x.length ≤ 100) : ∀ x ∈ l.take (i + 1), x.length ≤ 100 := by
  rw [List.take_add_one, List.getElem?_eq_getElem hi]
  intro y hy
  simp only [Option.toList_some, List.mem_append, List.mem_singleton] at hy
  rcases hy with hy | rfl
  · exact h y hy
  · rw [ex]; exact hx
theorem okW_all {l : List Bs} (h : l.all okW = true) : ∀ x ∈ l, 32 ∉ x ∧ x ≠ [] := by
  intro x hx
  have := List.all_eq_true.1 h x hx
  unfold okW at this
  simp only [Bool.and_eq_true, List.all_eq_true] at this
  refine ⟨fun hm => ?_, fun e => ?_⟩
  · have := this.1 32 hm
    exact absurd this (by decide)
  · rw [e] at this
    exact absurd this.2 (by decide)
theorem sub_lst' {c : UInt8} {s : Bs} {p : Nat × Nat} (h : p.2 = atS c s p.1) (hn : p.1 ≤ s.length) : sub s ((p.2 : Nat) : Int) ((p.1 : Nat) : Int) = lst c (s.take p.1) := by
  rw [h]; exact sub_lst hn
def ruledB (d : Int) (r : Rul) : Bool := (decide (r.way = 2) && (decide (1 ≤ r.size) && decide (r.size ≤ 16))) || ((decide (r.way = 0) || decide (r.way = 1)) && decide (r.size = 0)) || (decide (r.way = 3) && (decide (d = 4) && decide (r.size = 0)))

def domW : List Bs := [[99, 108, 105, 101, 110, 116], [111, 98, 106, 101, 99, 116], [118, 97, 108, 117, 101], [102, 105, 101, 108, 100], [111, 114, 100, 101, 114]]
def wayW : List Bs := [[107, 101, 101, 112], [111, 114, 100, 105, 110, 97, 108], [107, 101, 121, 101, 100], [114, 97, 110, 107], [100, 114, 111, 112]]
/-- The number of a way's word. -/
def wayS (s : Bs) : Int × Bool := if [107, 101, 101, 112] == s then (0, true) else if [111, 114, 100, 105, 110, 97, 108] == s then (1, true) else if [107, 101, 121, 101, 100] == s then (2, true) else if [114, 97, 110, 107] == s then (3, true) else if [100, 114, 111, 112] == s then (4, true) else (0, false)
def nameS (d : Int) : Bs := if d = 0 then [99, 108, 105, 101, 110, 116] else if d = 1 then [111, 98, 106, 101, 99, 116] else if d = 2 then [118, 97, 108, 117, 101] else if d = 3 then [102, 105, 101, 108, 100] else [111, 114, 100, 101, 114]
def saidS (d : Int) (r : Rul) : Bs := if r.way = 0 then nameS d ++ [32, 107, 101, 101, 112] else if r.way = 1 then nameS d ++ [32, 111, 114, 100, 105, 110, 97, 108] else if r.way = 2 then (nameS d ++ [32, 107, 101, 121, 101, 100, 32]) ++ Lib.itoa r.size else nameS d ++ [32, 114, 97, 110, 107]
theorem nameS_len (d : Int) : (nameS d).length ≤ 6 := by
  unfold nameS
  split; decide
  split; decide
  split; decide
  split; decide
  decide
/-- A line that says something of a domain. -/
def matchS (s : Bs) (d w n : Nat) : Bool := ruledB (d : Int) ⟨(w : Int), (n : Int)⟩ && saidS (d : Int) ⟨(w : Int), (n : Int)⟩ == s
def setR (p : Pol) (d : Int) (r : Rul) : Pol := if d = 0 then { p with r0 := r } else if d = 1 then { p with r1 := r } else if d = 2 then { p with r2 := r } else if d = 3 then { p with r3 := r } else { p with r4 := r }
def sTK : Bs := [116, 105, 109, 101, 32, 107, 101, 101, 112]
def sTR : Bs := [116, 105, 109, 101, 32, 114, 97, 110, 107]
def sNK : Bs := [110, 111, 116, 101, 32, 107, 101, 101, 112]
def sND : Bs := [110, 111, 116, 101, 32, 100, 114, 111, 112]
def sLo : Bs := [108, 111, 111, 115, 101]
def sFo : Bs := [102, 111, 114, 99, 101]
/-- All (domain, way, size). -/
def cands : List (Nat × Nat × Nat) := (List.range 5).flatMap fun d => (List.range 4).flatMap fun w => (List.range 17).map fun n => (d, w, n)
theorem cands_mem {c : Nat × Nat × Nat} : c ∈ cands ↔ c.1 < 5 ∧ c.2.1 ≤ 3 ∧ c.2.2 ≤ 16 := by
  obtain ⟨d, w, n⟩ := c
  simp only [cands, List.mem_flatMap, List.mem_range, List.mem_map, Prod.mk.injEq]
  constructor
  · rintro ⟨a, ha, b, hb, e, he, rfl, rfl, rfl⟩
    exact ⟨ha, by omega, by omega⟩
  · rintro ⟨h1, h2, h3⟩
    exact ⟨d, h1, w, by omega, n, by omega, rfl, rfl, rfl⟩
/-- What a line says something of, and the policy with it. -/
def lineR (s : Bs) (p : Pol) : Int × Pol :=
  match cands.find? fun c => matchS s c.1 c.2.1 c.2.2 with
  | some c => ((c.1 : Int), setR p (c.1 : Int) ⟨(c.2.1 : Int), (c.2.2 : Int)⟩)
  | none => if s = sTK then (5, p) else if s = sTR then (5, { p with time := 3 }) else if s = sNK then (6, p) else if s = sND then (6, { p with note := 4 })
    else if s = sLo then (7, { p with loose := true }) else if s = sFo then (8, { p with force := true }) else (-1, p)
/-- No two say the same. -/
theorem cands_one : (cands.all fun c => cands.all fun c' => !(ruledB (c.1 : Int) ⟨(c.2.1 : Int), (c.2.2 : Int)⟩ && ruledB (c'.1 : Int) ⟨(c'.2.1 : Int), (c'.2.2 : Int)⟩ && saidS (c.1 : Int) ⟨(c.2.1 : Int), (c.2.2 : Int)⟩ == saidS (c'.1 : Int) ⟨(c'.2.1 : Int), (c'.2.2 : Int)⟩) || c == c') = true := by
  decide +kernel
theorem lineR_hit {s : Bs} {p : Pol} {d w n : Nat} (hd : d < 5) (hw : w ≤ 3) (hn : n ≤ 16) (h : matchS s d w n = true) : lineR s p = ((d : Int), setR p (d : Int) ⟨(w : Int), (n : Int)⟩) := by
  have hm : (d, w, n) ∈ cands := cands_mem.2 ⟨hd, hw, hn⟩
  unfold lineR
  cases hf : cands.find? fun c => matchS s c.1 c.2.1 c.2.2 with
  | none =>
    have := List.find?_eq_none.1 hf (d, w, n) hm
    exact absurd h this
  | some c =>
    have h1 := List.find?_some hf
    have h2 := List.mem_of_find?_eq_some hf
    have h3 := List.all_eq_true.1 (List.all_eq_true.1 cands_one c h2) (d, w, n) hm
    unfold matchS at h h1
    simp only [Bool.and_eq_true, beq_iff_eq] at h h1
    have : c = (d, w, n) := by
      rw [Bool.or_eq_true] at h3
      rcases h3 with h3 | h3
      · rw [h1.1, h.1, h1.2, h.2] at h3
        simp at h3
      · simpa using h3
    subst this
    rfl
theorem lineR_miss {s : Bs} {p : Pol} (h : ∀ d w n : Nat, d < 5 → w ≤ 3 → n ≤ 16 → matchS s d w n = false) : lineR s p = if s = sTK then (5, p) else if s = sTR then (5, { p with time := 3 }) else if s = sNK then (6, p) else if s = sND then (6, { p with note := 4 })
    else if s = sLo then (7, { p with loose := true }) else if s = sFo then (8, { p with force := true }) else (-1, p) := by
  unfold lineR
  rw [List.find?_eq_none.2]
  intro c hc
  obtain ⟨h1, h2, h3⟩ := cands_mem.1 hc
  rw [h _ _ _ h1 h2 h3]
  decide
def w0S (l : List Bs) : Int × Bool := wayS (l.getD 0 [])
def oneS (l : List Bs) (may : Int) : Int × Bool := if l.length = 1 then ((w0S l).1, (w0S l).2 && (decide ((w0S l).1 = 0) || decide ((w0S l).1 = may))) else (0, false)
def ruleS (d : Int) (P : Pol) (l : List Bs) : Pol × Bool :=
  if l.length = 0 then (P, false)
  else if (w0S l).1 = 2 ∧ l.length = 2 then (setR P d ⟨(w0S l).1, okv (countS (l.getD 1 []) 16)⟩, ((w0S l).2 && decide (erv (countS (l.getD 1 []) 16) = 0)) && ruledB d ⟨(w0S l).1, okv (countS (l.getD 1 []) 16)⟩)
  else (setR P d ⟨(w0S l).1, 0⟩, ((w0S l).2 && decide (l.length = 1)) && ruledB d ⟨(w0S l).1, 0⟩)
theorem get0 {l : List Bs} {x : Bs} {h : (0 : Int).toNat < l.length} (e : l[(0 : Int).toNat] = x) : l.getD 0 [] = x := by
  rw [List.getD_eq_getElem?_getD, List.getElem?_eq_getElem (show 0 < l.length from h), Option.getD_some]; exact e
theorem get1 {l : List Bs} {x : Bs} {h : (1 : Int).toNat < l.length} (e : l[(1 : Int).toNat] = x) : l.getD 1 [] = x := by
  rw [List.getD_eq_getElem?_getD, List.getElem?_eq_getElem (show 1 < l.length from h), Option.getD_some]; exact e
def pcE (P : Pol) : List (Nat × Value) := [(0, .int .i64 P.r0.way), (1, .int .i64 P.r0.size), (2, .int .i64 P.r1.way), (3, .int .i64 P.r1.size), (4, .int .i64 P.r2.way), (5, .int .i64 P.r2.size), (6, .int .i64 P.r3.way), (7, .int .i64 P.r3.size), (8, .int .i64 P.r4.way), (9, .int .i64 P.r4.size), (10, .int .i64 P.time), (11, .int .i64 P.note), (12, .bool P.loose), (13, .bool P.force)]
def timeS (P : Pol) (l : List Bs) : Pol × Bool := ({ P with time := (oneS l 3).1 }, (oneS l 3).2)
def noteP (P : Pol) (l : List Bs) : Pol × Bool := ({ P with note := (oneS l 4).1 }, (oneS l 4).2)
def looseS (P : Pol) (l : List Bs) : Pol × Bool := ({ P with loose := true }, decide ((l.length : Int) = 0))
def forceS (P : Pol) (l : List Bs) : Pol × Bool := ({ P with force := true }, decide ((l.length : Int) = 0))
/-! `incognito/num.size` -/
set_option maxRecDepth 100000 in
set_option maxHeartbeats 4000000 in
theorem c_size (s : Bs) (most : Int) (w0 : World) (G : Heap) (hG : Sub G w0) (hm : 9 ≤ most ∧ most ≤ 9223372036854775808) (hl : s.length ≤ 9223372036854775807):
  Calls Tryd.prog 113 #[str s, .int .u64 most] w0 (Throws w0 G 31 (fun v _ => ∃ n, sizeS s most = .ok n ∧ v = .int .u64 n) (fun e => sizeS s most = .error e)) := by
 refine enter Tryd.func113 rfl Tryd.ntmps113 rfl ?_
 intro Q hQ a HE
 have HS := St.start0 hG
 refine wp_seq_k (fun K hK => ?_); refine wp_region_lit ?_
 refine o_assign HE rfl rfl ?_; clear HE; intro a HE
 refine hK _ _ ?_; clear hK K
 refine wp_seq_k (fun K3 hK2 => ?_)
 refine wp_seq_k (fun K hK => ?_); refine wp_region_lit ?_
 refine o_move HE rfl rfl ?_; clear HE; intro a HE
 refine o_eqS HE rfl rfl rfl ?_; clear HE; intro a HE
 refine o_move HE rfl rfl ?_; clear HE; intro a HE
 refine cutL 9 (fun a' w' => w0 = w' ∧ Env a' 68 [] [(20, .bool ((s == []) || ((decide ((bt s 0) = 48)) && (decide (1 < (s.length : Int)))))), (0, str s), (1, .int .u64 most), (4, .int .u64 0)]) ?_ ?_
 ·refine (Bool.eq_false_or_eq_true (s == [])).elim (fun hb4 => ?_) (fun hb4 => ?_)
  ·skip
   have hk5 := hb4; try simp only [zz1, zz2, zz3, zz4, zz5, zz7, zz8, zz9, zza, zzb] at hk5
   refine g_off HE rfl rfl rfl hb4 ?_; clear HE; intro a HE
   refine g_off HE rfl rfl rfl hb4 ?_; clear HE; intro a HE
   refine g_off HE rfl rfl rfl hb4 ?_; clear HE; intro a HE
   refine g_off HE rfl rfl rfl hb4 ?_; clear HE; intro a HE
   refine g_offu HE rfl rfl rfl ?_; clear HE; intro a HE
   refine g_offu HE rfl rfl rfl ?_; clear HE; intro a HE
   refine g_offu HE rfl rfl rfl ?_; clear HE; intro a HE
   refine g_off HE rfl rfl rfl hb4 ?_; clear HE; intro a HE
   refine o_pick_t HE rfl rfl hb4 rfl ?_; clear HE; intro a HE
   exact ⟨rfl, HE.cut ⟨by rw [hb4]; rfl, rfl, rfl, rfl, trivial⟩⟩
  ·skip
   have hk6 := hb4; try simp only [zz1, zz2, zz3, zz4, zz5, zz7, zz8, zz9, zza, zzb] at hk6
   refine op_on HE rfl rfl hb4 ?_
   refine o_move HE rfl rfl ?_; clear HE; intro a HE
   refine op_on HE rfl rfl hb4 ?_
   refine o_index HE rfl rfl rfl Tryd.underlying9 (by (have := List.length_pos_iff.2 (show s ≠ [] by assumption); omega)) ?_; clear HE; intro a HE
   refine op_on HE rfl rfl hb4 ?_
   refine o_eqI HE rfl rfl rfl ?_; clear HE; intro a HE
   refine op_on HE rfl rfl hb4 ?_
   refine o_move HE rfl rfl ?_; clear HE; intro a HE
   refine cutL 4 (fun a' w' => w0 = w' ∧ Env a' 68 [] [(19, .bool ((decide ((bt s 0) = 48)) && (decide (1 < (s.length : Int))))), (0, str s), (1, .int .u64 most), (4, .int .u64 0), (11, .bool (s == []))]) ?_ ?_
   ·refine (Bool.eq_false_or_eq_true (decide ((bt s 0) = 48))).elim (fun hb7 => ?_) (fun hb7 => ?_)
    ·skip
     have hk8 := hb7; try simp only [zz1, zz2, zz3, zz4, zz5, zz7, zz8, zz9, zza, zzb] at hk8
     refine op_on HE rfl rfl hb7 ?_
     refine o_move HE rfl rfl ?_; clear HE; intro a HE
     refine op_on HE rfl rfl hb7 ?_
     refine o_lenS HE rfl rfl Tryd.underlying9 ?_; clear HE; intro a HE
     refine op_on HE rfl rfl hb7 ?_
     refine o_gtr HE rfl rfl rfl ?_; clear HE; intro a HE
     refine op_on HE rfl rfl hb4 ?_
     refine o_pick_t HE rfl rfl hb7 rfl ?_; clear HE; intro a HE
     exact ⟨rfl, HE.cut ⟨by rw [hb7]; rfl, rfl, rfl, rfl, rfl, trivial⟩⟩
    ·skip
     have hk9 := hb7; try simp only [zz1, zz2, zz3, zz4, zz5, zz7, zz8, zz9, zza, zzb] at hk9
     refine g_off HE rfl rfl rfl hb7 ?_; clear HE; intro a HE
     refine g_off HE rfl rfl rfl hb7 ?_; clear HE; intro a HE
     refine g_off HE rfl rfl rfl hb7 ?_; clear HE; intro a HE
     refine op_on HE rfl rfl hb4 ?_
     refine o_pick_f HE rfl rfl hb7 rfl ?_; clear HE; intro a HE
     exact ⟨rfl, HE.cut ⟨by rw [hb7]; rfl, rfl, rfl, rfl, rfl, trivial⟩⟩
   clear HE; rintro a _ ⟨rfl, HE⟩
   refine o_pick_f HE rfl rfl hb4 rfl ?_; clear HE; intro a HE
   exact ⟨rfl, HE.cut ⟨by rw [hb4]; rfl, rfl, rfl, rfl, trivial⟩⟩
 clear HE; rintro a _ ⟨rfl, HE⟩
 refine hK _ _ ?_; clear hK K
 refine cond HE rfl (fun h11 => ?_) (fun h11 => ?_)
 ·have h11r := h11; try simp only [zz1, zz2, zz3, zz4, zz5, zz6, zz7, zz8, zz9, zza, zzb] at h11
  refine wp_region_lit ?_
  refine o_mkIf HE rfl rfl T.n31 ?_; clear HE; intro a HE
  refine o_panic HE rfl ?_
  show Q (.panic _) _ _
  exact throwX hQ HE ⟨_, _, HS.stop (List.nil_sublist _), rfl, _, (by first | exact size_e2a h11 | exact size_e2b (i := i) (by omega) h11 | exact size_e3 hdg (j := j) (by omega) (by omega)), rfl⟩
 ·have h11r := h11; try simp only [zz1, zz2, zz3, zz4, zz5, zz6, zz7, zz8, zz9, zza, zzb] at h11
  refine wp_skip ?_
  refine hK2 _ _ ?_; clear hK2
  refine wp_seq_k (fun K13 hK12 => ?_)
  refine wp_seq_k (fun K hK => ?_); refine wp_region_lit ?_
  refine o_move HE rfl rfl ?_; clear HE; intro a HE
  refine o_lenS HE rfl rfl Tryd.underlying9 ?_; clear HE; intro a HE
  refine o_move HE rfl rfl ?_; clear HE; intro a HE
  refine hK _ _ ?_; clear hK K
  refine wp_block ?_
  refine loop (fun (i : Nat) a' w' => St w0 G [] G w' [] ∧ Env a' 68 [] [(0, str s), (1, .int .u64 most), (23, .int .i64 (s.length : Int)), (24, .int .i64 (i : Int))] ∧ (i ≤ s.length ∧ (s.take i).all digB = true)) (fun (i : Nat) => s.length - i) 0 ⟨HS, HE.cut ⟨rfl, rfl, rfl, rfl, trivial⟩, ⟨Nat.zero_le _, rfl⟩⟩ ?_
  clear HE HS; intro i a w ⟨HS, HE, ⟨hi, ha⟩⟩
  refine wp_seq_k (fun K hK => ?_); refine wp_region_lit ?_
  refine o_lss HE rfl rfl rfl ?_; clear HE; intro a HE
  refine hK _ _ ?_; clear hK K
  refine wp_seq_k (fun K18 hK17 => ?_)
  refine cond HE rfl (fun h19 => ?_) (fun h19 => ?_)
  ·have h19r := h19; try simp only [zz1, zz2, zz3, zz4, zz5, zz6, zz7, zz8, zz9, zza, zzb] at h19
   refine wp_skip ?_
   refine hK17 _ _ ?_; clear hK17
   refine wp_seq_k (fun K21 hK20 => ?_)
   refine wp_block ?_
   refine wp_seq_k (fun K hK => ?_); refine wp_region_lit ?_
   refine o_move HE rfl rfl ?_; clear HE; intro a HE
   refine o_assign HE rfl rfl ?_; clear HE; intro a HE
   refine hK _ _ ?_; clear hK K
   refine wp_seq_k (fun K hK => ?_); refine wp_region_lit ?_
   refine o_move HE rfl rfl ?_; clear HE; intro a HE
   refine o_move HE rfl rfl ?_; clear HE; intro a HE
   refine o_index HE rfl rfl rfl Tryd.underlying9 (by omega) ?_; clear HE; intro a HE
   refine o_lss HE rfl rfl rfl ?_; clear HE; intro a HE
   refine o_move HE rfl rfl ?_; clear HE; intro a HE
   refine cutL 5 (fun a' w' => w = w' ∧ Env a' 68 [] [(36, .bool ((decide ((bt s (i : Int)) < 48)) || (decide (57 < (bt s (i : Int)))))), (0, str s), (1, .int .u64 most), (23, .int .i64 (s.length : Int)), (24, .int .i64 (i : Int)), (25, .bool (decide ((i : Int) < (s.length : Int)))), (26, .int .i64 (i : Int))]) ?_ ?_
   ·refine (Bool.eq_false_or_eq_true (decide ((bt s (i : Int)) < 48))).elim (fun hb23 => ?_) (fun hb23 => ?_)
    ·skip
     have hk24 := hb23; try simp only [zz1, zz2, zz3, zz4, zz5, zz7, zz8, zz9, zza, zzb] at hk24
     refine g_off HE rfl rfl rfl hb23 ?_; clear HE; intro a HE
     refine g_off HE rfl rfl rfl hb23 ?_; clear HE; intro a HE
     refine g_off HE rfl rfl rfl hb23 ?_; clear HE; intro a HE
     refine g_off HE rfl rfl rfl hb23 ?_; clear HE; intro a HE
     refine o_pick_t HE rfl rfl hb23 rfl ?_; clear HE; intro a HE
     exact ⟨rfl, HE.cut ⟨by rw [hb23]; rfl, rfl, rfl, rfl, rfl, rfl, rfl, trivial⟩⟩
    ·skip
     have hk25 := hb23; try simp only [zz1, zz2, zz3, zz4, zz5, zz7, zz8, zz9, zza, zzb] at hk25
     refine op_on HE rfl rfl hb23 ?_
     refine o_move HE rfl rfl ?_; clear HE; intro a HE
     refine op_on HE rfl rfl hb23 ?_
     refine o_move HE rfl rfl ?_; clear HE; intro a HE
     refine op_on HE rfl rfl hb23 ?_
     refine o_index HE rfl rfl rfl Tryd.underlying9 (by omega) ?_; clear HE; intro a HE
     refine op_on HE rfl rfl hb23 ?_
     refine o_gtr HE rfl rfl rfl ?_; clear HE; intro a HE
     refine o_pick_f HE rfl rfl hb23 rfl ?_; clear HE; intro a HE
     exact ⟨rfl, HE.cut ⟨by rw [hb23]; rfl, rfl, rfl, rfl, rfl, rfl, rfl, trivial⟩⟩
   clear HE; rintro a _ ⟨rfl, HE⟩
   refine hK _ _ ?_; clear hK K
   refine cond HE rfl (fun h27 => ?_) (fun h27 => ?_)
   ·have h27r := h27; try simp only [zz1, zz2, zz3, zz4, zz5, zz6, zz7, zz8, zz9, zza, zzb] at h27
    refine wp_region_lit ?_
    refine o_mkIf HE rfl rfl T.n31 ?_; clear HE; intro a HE
    refine o_panic HE rfl ?_
    show Q (.panic _) _ _
    exact throwX hQ HE ⟨_, _, HS.stop (List.nil_sublist _), rfl, _, (by first | exact size_e2a h27 | exact size_e2b (i := i) (by omega) h27 | exact size_e3 hdg (j := j) (by omega) (by omega)), rfl⟩
   ·have h27r := h27; try simp only [zz1, zz2, zz3, zz4, zz5, zz6, zz7, zz8, zz9, zza, zzb] at h27
    refine wp_skip ?_
    refine hK20 _ _ ?_; clear hK20
    refine wp_region_lit ?_
    refine o_add HE rfl rfl rfl (by omega) ?_; clear HE; intro a HE
    refine o_move HE rfl rfl ?_; clear HE; intro a HE
    have hlt : i < s.length := by omega
    have ha2 : (s.take (i + 1)).all digB = true := by rw [all_take hlt, ha, dig_of hlt (by omega) (by omega)]; rfl
    exact ⟨i + 1, ⟨HS, HE.cut ⟨rfl, rfl, rfl, rfl, trivial⟩, ⟨by omega, ha2⟩⟩, by omega⟩
  ·have h19r := h19; try simp only [zz1, zz2, zz3, zz4, zz5, zz6, zz7, zz8, zz9, zza, zzb] at h19
   refine wp_exit ?_
   refine hK12 _ _ ?_; clear hK12
   refine wp_seq_k (fun K hK => ?_); refine wp_region_lit ?_
   refine o_assign HE rfl rfl ?_; clear HE; intro a HE
   refine hK _ _ ?_; clear hK K
   refine wp_seq_k (fun K30 hK29 => ?_)
   refine wp_seq_k (fun K hK => ?_); refine wp_region_lit ?_
   refine o_move HE rfl rfl ?_; clear HE; intro a HE
   refine o_lenS HE rfl rfl Tryd.underlying9 ?_; clear HE; intro a HE
   refine o_move HE rfl rfl ?_; clear HE; intro a HE
   refine hK _ _ ?_; clear hK K
   refine wp_block ?_
   have hall : s.all digB = true := by rw [show i = s.length by omega, List.take_length] at ha; exact ha
   have hdg : digitsB s = true := digits_of hall h11.1 h11.2
   refine loop (fun (j : Nat) a' w' => St w0 G [] G w' [] ∧ Env a' 68 [] [(0, str s), (1, .int .u64 most), (6, .int .u64 ((dv (s.take j) : Nat) : Int)), (40, .int .i64 (s.length : Int)), (41, .int .i64 (j : Int))] ∧ (j ≤ s.length ∧ ((dv (s.take j) : Nat) : Int) ≤ most)) (fun (j : Nat) => s.length - j) 0 ⟨HS, HE.cut ⟨rfl, rfl, rfl, rfl, rfl, trivial⟩, ⟨Nat.zero_le _, by show ((0 : Nat) : Int) ≤ most; omega⟩⟩ ?_
   clear HE HS; intro j a w ⟨HS, HE, ⟨hj, hb⟩⟩
   refine wp_seq_k (fun K hK => ?_); refine wp_region_lit ?_
   refine o_lss HE rfl rfl rfl ?_; clear HE; intro a HE
   refine hK _ _ ?_; clear hK K
   refine wp_seq_k (fun K35 hK34 => ?_)
   refine cond HE rfl (fun h36 => ?_) (fun h36 => ?_)
   ·have h36r := h36; try simp only [zz1, zz2, zz3, zz4, zz5, zz6, zz7, zz8, zz9, zza, zzb] at h36
    refine wp_skip ?_
    refine hK34 _ _ ?_; clear hK34
    refine wp_seq_k (fun K38 hK37 => ?_)
    refine wp_block ?_
    refine wp_seq_k (fun K hK => ?_); refine wp_region_lit ?_
    refine o_move HE rfl rfl ?_; clear HE; intro a HE
    refine o_assign HE rfl rfl ?_; clear HE; intro a HE
    refine hK _ _ ?_; clear hK K
    refine wp_seq_k (fun K hK => ?_); refine wp_region_lit ?_
    refine o_move HE rfl rfl ?_; clear HE; intro a HE
    refine o_move HE rfl rfl ?_; clear HE; intro a HE
    have hd : 48 ≤ bt s (j : Int) ∧ bt s (j : Int) ≤ 57 := dig_at hall (by omega)
    refine o_index HE rfl rfl rfl Tryd.underlying9 (by omega) ?_; clear HE; intro a HE
    refine o_subF HE rfl rfl rfl (wrap_u8 (by omega)) ?_; clear HE; intro a HE
    refine o_conv HE rfl rfl T.c5_159 (wrap_u64 (by omega)) ?_; clear HE; intro a HE
    refine o_assign HE rfl rfl ?_; clear HE; intro a HE
    refine hK _ _ ?_; clear hK K
    refine wp_seq_k (fun K42 hK41 => ?_)
    refine wp_seq_k (fun K hK => ?_); refine wp_region_lit ?_
    refine o_move HE rfl rfl ?_; clear HE; intro a HE
    refine o_move HE rfl rfl ?_; clear HE; intro a HE
    refine o_quoF HE rfl rfl rfl (by omega) (by rw [Int.tdiv_eq_ediv_of_nonneg (by omega)]; exact wrap_u64 (by omega)) ?_; clear HE; intro a HE
    refine o_gtr HE rfl rfl rfl ?_; clear HE; intro a HE
    refine o_move HE rfl rfl ?_; clear HE; intro a HE
    refine cutL 7 (fun a' w' => w = w' ∧ Env a' 68 [] [(60, .bool ((decide ((most / 10) < ((dv (s.take j) : Nat) : Int))) || (decide ((most - ((bt s (j : Int)) - 48)) < (((dv (s.take j) : Nat) : Int) * 10))))), (0, str s), (1, .int .u64 most), (6, .int .u64 ((dv (s.take j) : Nat) : Int)), (7, .int .i64 (j : Int)), (8, .int .u64 ((bt s (j : Int)) - 48)), (40, .int .i64 (s.length : Int)), (41, .int .i64 (j : Int)), (42, .bool (decide ((j : Int) < (s.length : Int)))), (43, .int .i64 (j : Int)), (44, str s), (45, .int .i64 (j : Int)), (46, .int .u8 (bt s (j : Int))), (47, .int .u8 ((bt s (j : Int)) - 48)), (48, .int .u64 ((bt s (j : Int)) - 48))]) ?_ ?_
    ·refine (Bool.eq_false_or_eq_true (decide ((most / 10) < ((dv (s.take j) : Nat) : Int)))).elim (fun hb43 => ?_) (fun hb43 => ?_)
     ·skip
      have hk44 := hb43; try simp only [zz1, zz2, zz3, zz4, zz5, zz7, zz8, zz9, zza, zzb] at hk44
      refine g_off HE rfl rfl rfl hb43 ?_; clear HE; intro a HE
      refine g_off HE rfl rfl rfl hb43 ?_; clear HE; intro a HE
      refine g_off HE rfl rfl rfl hb43 ?_; clear HE; intro a HE
      refine g_off HE rfl rfl rfl hb43 ?_; clear HE; intro a HE
      refine g_off HE rfl rfl rfl hb43 ?_; clear HE; intro a HE
      refine g_off HE rfl rfl rfl hb43 ?_; clear HE; intro a HE
      refine o_pick_t HE rfl rfl hb43 rfl ?_; clear HE; intro a HE
      exact ⟨rfl, HE.cut ⟨by rw [hb43]; rfl, rfl, rfl, rfl, rfl, rfl, rfl, rfl, rfl, rfl, rfl, rfl, rfl, rfl, rfl, trivial⟩⟩
     ·skip
      have hk45 := hb43; try simp only [zz1, zz2, zz3, zz4, zz5, zz7, zz8, zz9, zza, zzb] at hk45
      refine op_on HE rfl rfl hb43 ?_
      refine o_move HE rfl rfl ?_; clear HE; intro a HE
      refine op_on HE rfl rfl hb43 ?_
      refine o_mulF HE rfl rfl rfl (wrap_u64 (by omega)) ?_; clear HE; intro a HE
      refine op_on HE rfl rfl hb43 ?_
      refine o_move HE rfl rfl ?_; clear HE; intro a HE
      refine op_on HE rfl rfl hb43 ?_
      refine o_move HE rfl rfl ?_; clear HE; intro a HE
      refine op_on HE rfl rfl hb43 ?_
      refine o_subF HE rfl rfl rfl (wrap_u64 (by omega)) ?_; clear HE; intro a HE
      refine op_on HE rfl rfl hb43 ?_
      refine o_gtr HE rfl rfl rfl ?_; clear HE; intro a HE
      refine o_pick_f HE rfl rfl hb43 rfl ?_; clear HE; intro a HE
      exact ⟨rfl, HE.cut ⟨by rw [hb43]; rfl, rfl, rfl, rfl, rfl, rfl, rfl, rfl, rfl, rfl, rfl, rfl, rfl, rfl, rfl, trivial⟩⟩
    clear HE; rintro a _ ⟨rfl, HE⟩
    refine hK _ _ ?_; clear hK K
    refine cond HE rfl (fun h47 => ?_) (fun h47 => ?_)
    ·have h47r := h47; try simp only [zz1, zz2, zz3, zz4, zz5, zz6, zz7, zz8, zz9, zza, zzb] at h47
     refine wp_region_lit ?_
     refine o_mkIf HE rfl rfl T.n31 ?_; clear HE; intro a HE
     refine o_panic HE rfl ?_
     show Q (.panic _) _ _
     exact throwX hQ HE ⟨_, _, HS.stop (List.nil_sublist _), rfl, _, (by first | exact size_e2a h47 | exact size_e2b (i := i) (by omega) h47 | exact size_e3 hdg (j := j) (by omega) (by omega)), rfl⟩
    ·have h47r := h47; try simp only [zz1, zz2, zz3, zz4, zz5, zz6, zz7, zz8, zz9, zza, zzb] at h47
     refine wp_skip ?_
     refine hK41 _ _ ?_; clear hK41
     refine wp_region_lit ?_
     refine o_move HE rfl rfl ?_; clear HE; intro a HE
     refine o_mulF HE rfl rfl rfl (wrap_u64 (by omega)) ?_; clear HE; intro a HE
     refine o_move HE rfl rfl ?_; clear HE; intro a HE
     refine o_addF HE rfl rfl rfl (wrap_u64 (by omega)) ?_; clear HE; intro a HE
     refine o_assign HE rfl rfl ?_; clear HE; intro a HE
     refine hK37 _ _ ?_; clear hK37
     refine wp_region_lit ?_
     refine o_add HE rfl rfl rfl (by omega) ?_; clear HE; intro a HE
     refine o_move HE rfl rfl ?_; clear HE; intro a HE
     have e6 : (((dv (s.take j) : Nat) : Int) * 10) + ((bt s (j : Int)) - 48) = ((dv (s.take (j + 1)) : Nat) : Int) := (dv_step hall (by omega)).symm
     rw [e6] at HE
     have hb2 : ((dv (s.take (j + 1)) : Nat) : Int) ≤ most := by omega
     exact ⟨j + 1, ⟨HS, HE.cut ⟨rfl, rfl, rfl, rfl, rfl, trivial⟩, ⟨by omega, hb2⟩⟩, by omega⟩
   ·have h36r := h36; try simp only [zz1, zz2, zz3, zz4, zz5, zz6, zz7, zz8, zz9, zza, zzb] at h36
    refine wp_exit ?_
    refine hK29 _ _ ?_; clear hK29
    refine wp_seq_k (fun K hK => ?_); refine wp_region_lit ?_
    refine o_move HE rfl rfl ?_; clear HE; intro a HE
    refine o_assign HE rfl rfl ?_; clear HE; intro a HE
    refine hK _ _ ?_; clear hK K
    refine wp_ret ?_
    show Q .ret _ _
    refine ret hQ HE rfl (HE.res rfl .nil) ⟨_, _, HS.stop (List.nil_sublist _), rfl, ?_⟩
    have e : j = s.length := by omega
    subst e
    rw [List.take_length] at hb ⊢
    exact ⟨_, size_ok hdg hb, rfl⟩

/-! `incognito/num.Count$1` -/
set_option maxRecDepth 100000 in
set_option maxHeartbeats 4000000 in
theorem c_count1 (s : Bs) (most : Int) (b1 b2 : Nat) (w0 : World) (G : Heap) (hG : Sub G w0) (hC1 : CellsAt G b1 0 [str s]) (hC2 : CellsAt G b2 0 [.int .i64 most]) (hmr : I64 most) (hl : s.length ≤ 9223372036854775807):
  Calls Tryd.prog 112 #[.pointer (some ⟨b1, 0, none⟩), .pointer (some ⟨b2, 0, none⟩)] w0 (Throws w0 G 31 (fun v _ => ∃ n, countS s most = .ok n ∧ v = .int .i64 n) (fun e => countS s most = .error e)) := by
 refine enter Tryd.func112 rfl Tryd.ntmps112 rfl ?_
 intro Q hQ a HE
 have HS := St.start0 hG
 refine wp_seq_k (fun K hK => ?_); refine wp_region_lit ?_
 refine o_assign HE rfl rfl ?_; clear HE; intro a HE
 refine hK _ _ ?_; clear hK K
 refine wp_seq_k (fun K hK => ?_); refine wp_region_lit ?_
 refine o_ldI HE rfl HS rfl T.s9 hC1 (j := 0) rfl rfl ?_; clear HE; intro a HE
 refine o_callE HE rfl HS rfl rfl T.g113 (c_size s 9223372036854775807 _ _ HS.sub (by omega) (by first | omega | (simp; omega))) (fun e G' w' HS hle he => show Q (.panic (thrown _ e)) _ _ from throwX hQ HE ⟨_, _, HS.stop (List.nil_sublist _), rfl, _, (by unfold countS; rw [he]), rfl⟩) ?_
 clear HE HS; rintro _ G2 w a HS hle2 ⟨n2, hn2, rfl⟩ HE
 replace hC1 := hC1.le hle2
 replace hC2 := hC2.le hle2
 refine o_assign HE rfl rfl ?_; clear HE; intro a HE
 refine hK _ _ ?_; clear hK K
 refine wp_seq_k (fun K5 hK4 => ?_)
 refine wp_seq_k (fun K hK => ?_); refine wp_region_lit ?_
 have hsb := size_bound hn2
 refine o_ldI HE rfl HS rfl T.s2 hC2 (j := 0) rfl rfl ?_; clear HE; intro a HE
 refine o_lss HE rfl rfl rfl ?_; clear HE; intro a HE
 refine o_move HE rfl rfl ?_; clear HE; intro a HE
 refine cutL 5 (fun a' w' => w = w' ∧ Env a' 17 [] [(13, .bool ((decide (most < 0)) || (decide (most < n2)))), (0, .pointer (some ⟨b1, 0, none⟩)), (2, .int .i64 0), (3, .int .u64 n2), (4, str s), (5, .int .u64 n2)]) ?_ ?_
 ·refine (Bool.eq_false_or_eq_true (decide (most < 0))).elim (fun hb6 => ?_) (fun hb6 => ?_)
  ·skip
   have hk7 := hb6; try simp only [zz1, zz2, zz3, zz4, zz5, zz7, zz8, zz9, zza, zzb] at hk7
   refine g_off HE rfl rfl rfl hb6 ?_; clear HE; intro a HE
   refine g_off HE rfl rfl rfl hb6 ?_; clear HE; intro a HE
   refine g_off HE rfl rfl rfl hb6 ?_; clear HE; intro a HE
   refine g_off HE rfl rfl rfl hb6 ?_; clear HE; intro a HE
   refine o_pick_t HE rfl rfl hb6 rfl ?_; clear HE; intro a HE
   exact ⟨rfl, HE.cut ⟨by rw [hb6]; rfl, rfl, rfl, rfl, rfl, rfl, trivial⟩⟩
  ·skip
   have hk8 := hb6; try simp only [zz1, zz2, zz3, zz4, zz5, zz7, zz8, zz9, zza, zzb] at hk8
   refine op_on HE rfl rfl hb6 ?_
   refine o_move HE rfl rfl ?_; clear HE; intro a HE
   refine op_on HE rfl rfl hb6 ?_
   refine o_ldI HE rfl HS rfl T.s2 hC2 (j := 0) rfl rfl ?_; clear HE; intro a HE
   refine op_on HE rfl rfl hb6 ?_
   refine o_conv HE rfl rfl T.c2_159 (wrap_u64 (by omega)) ?_; clear HE; intro a HE
   refine op_on HE rfl rfl hb6 ?_
   refine o_gtr HE rfl rfl rfl ?_; clear HE; intro a HE
   refine o_pick_f HE rfl rfl hb6 rfl ?_; clear HE; intro a HE
   exact ⟨rfl, HE.cut ⟨by rw [hb6]; rfl, rfl, rfl, rfl, rfl, rfl, trivial⟩⟩
 clear HE; rintro a _ ⟨rfl, HE⟩
 refine hK _ _ ?_; clear hK K
 refine cond HE rfl (fun h10 => ?_) (fun h10 => ?_)
 ·have h10r := h10; try simp only [zz1, zz2, zz3, zz4, zz5, zz6, zz7, zz8, zz9, zza, zzb] at h10
  refine wp_region_lit ?_
  refine o_mkIf HE rfl rfl T.n31 ?_; clear HE; intro a HE
  refine o_panic HE rfl ?_
  show Q (.panic _) _ _
  exact throwX hQ HE ⟨_, _, HS.stop (List.nil_sublist _), rfl, _, (by unfold countS; rw [hn2]; exact if_pos h10), rfl⟩
 ·have h10r := h10; try simp only [zz1, zz2, zz3, zz4, zz5, zz6, zz7, zz8, zz9, zza, zzb] at h10
  refine wp_skip ?_
  refine hK4 _ _ ?_; clear hK4
  refine wp_seq_k (fun K hK => ?_); refine wp_region_lit ?_
  refine o_move HE rfl rfl ?_; clear HE; intro a HE
  refine o_conv HE rfl rfl T.c159_2 (wrap_i64 (by omega)) ?_; clear HE; intro a HE
  refine o_assign HE rfl rfl ?_; clear HE; intro a HE
  refine hK _ _ ?_; clear hK K
  refine wp_ret ?_
  show Q .ret _ _
  refine ret hQ HE rfl (HE.res rfl .nil) ⟨_, _, HS.stop (List.nil_sublist _), rfl, ?_⟩
  exact ⟨_, by unfold countS; rw [hn2]; exact if_neg (by omega), rfl⟩

theorem catch_idle (p q : Nat) (w : World) : CallsD Tryd.prog 132 #[.pointer (some ⟨p, 0, none⟩), .pointer (some ⟨q, 0, none⟩)] .returning w fun e u' w' => (∃ v, e = .returned v) ∧ u' = .returning ∧ w' = w := by
 refine enterS Tryd.func132 rfl Tryd.ntmps132 rfl fun c₀ cs hu a HE => ?_
 apply wpS_seq
 apply wpS_region
 show wpOpsS _ _ _ [0, 1] _ _ _
 refine opsS_recover rfl rfl rfl HE rfl run_recover (fun _ a HE => ?_) (fun v cs' h => by simp [recoverD, hu] at h)
 refine opsS_val (w' := w) (v := .nilIface) rfl rfl rfl HE rfl (by simp [execOp, HE.eval (x := .tmp 3) (v := .nilIface) rfl]) fun a HE => ?_
 show Code.wpS _ _ _ _ _ _
 apply wpS_seq
 apply wpS_region
 show wpOpsS _ _ _ [0, 1] _ _ _
 refine opsS_val (w' := w) (v := .nilIface) rfl rfl rfl HE rfl (by simp [execOp, HE.eval (x := .tmp 2) (v := .nilIface) rfl]) fun a HE => ?_
 refine opsS_val (w' := w) rfl rfl rfl HE rfl (run_isNil HE rfl T.i20) fun a HE => ?_
 show Code.wpS _ _ _ _ _ _
 refine wpS_cond (t := false) (HE.eval rfl) ?_
 simp only [Bool.false_eq_true, if_false]
 refine wpS_of_wp (wp_skip ?_)
 exact ⟨HE.defers, .returning, by cases c₀; simp_all, _, Res.nil.run rfl, ⟨_, rfl⟩, rfl, rfl⟩
theorem catch_pan (p q : Nat) (e : Int) (older : List PanicEntry) {x y : Value} {w0 : World} {G0 : Heap} {K0 : List Nat} {G : Heap} {w : World} {M0 : List Chunk} (HS : St w0 G0 K0 G w ([(q, Cells 31 [(0, y)])] :: [(p, Cells 2 [(0, x)])] :: M0)) :
  CallsD Tryd.prog 132 #[.pointer (some ⟨p, 0, none⟩), .pointer (some ⟨q, 0, none⟩)] (.panicking ({ v := .iface 31 (.int .i64 e), recovered := false } :: older)) w fun e' u' w' => (∃ v, e' = .returned v) ∧ u' = .panicking ({ v := .iface 31 (.int .i64 e), recovered := true } :: older) ∧ St w0 G0 K0 G w' ([(q, Cells 31 [(0, .int .i64 e)])] :: [(p, Cells 2 [(0, .int .i64 0)])] :: M0) := by
 refine enterS Tryd.func132 rfl Tryd.ntmps132 rfl fun c₀ cs hu a HE => ?_
 apply wpS_seq
 apply wpS_region
 show wpOpsS _ _ _ [0, 1] _ _ _
 refine opsS_recover rfl rfl rfl HE rfl run_recover (fun h => by simp [recoverD, hu] at h) (fun v cs' h a HE => ?_)
 obtain ⟨rfl, rfl⟩ : v = .iface 31 (.int .i64 e) ∧ cs' = { c₀ with mode := .panicking ({ v := .iface 31 (.int .i64 e), recovered := true } :: older) } :: cs := by
  simp [recoverD, hu] at h
  exact ⟨h.1.symm, h.2.symm⟩
 refine opsS_val (w' := w) (v := .iface 31 (.int .i64 e)) rfl rfl rfl HE rfl (by simp [execOp, HE.eval (x := .tmp 3) (v := .iface 31 (.int .i64 e)) rfl]) fun a HE => ?_
 show Code.wpS _ _ _ _ _ _
 apply wpS_seq
 apply wpS_region
 show wpOpsS _ _ _ [0, 1] _ _ _
 refine opsS_val (w' := w) (v := .iface 31 (.int .i64 e)) rfl rfl rfl HE rfl (by simp [execOp, HE.eval (x := .tmp 2) (v := .iface 31 (.int .i64 e)) rfl]) fun a HE => ?_
 refine opsS_val (w' := w) rfl rfl rfl HE rfl (run_isThere HE rfl T.i20) fun a HE => ?_
 show Code.wpS _ _ _ _ _ _
 refine wpS_cond (t := true) (HE.eval rfl) ?_
 simp only [if_true]
 refine wpS_of_wp (wp_region_any T.mix ?_)
 have HS := HS.drew
 clear h
 show wpAny _ _ _ _ 4 #[false, false, false, false] _ _
 refine any_node (l := [0, 2]) (by kernel_rfl) (by simp) fun i hi => ?_
 simp only [List.mem_cons, List.not_mem_nil, or_false] at hi
 rcases hi with rfl | rfl
 ·refine any_op rfl ?_
  refine o_move HE rfl rfl ?_; clear HE; intro a HE
  refine any_next (l2 := #[true, false, false, false]) (by kernel_rfl) ?_
  refine any_node (l := [1, 2]) (by kernel_rfl) (by simp) fun i hi => ?_
  simp only [List.mem_cons, List.not_mem_nil, or_false] at hi
  rcases hi with rfl | rfl
  ·refine any_op rfl ?_
   refine o_assert HE rfl rfl T.n31 ?_; clear HE; intro a HE
   refine any_next (l2 := #[true, true, false, false]) (by kernel_rfl) ?_
   refine any_node (l := [2]) (by kernel_rfl) (by simp) fun i hi => ?_
   simp only [List.mem_cons, List.not_mem_nil, or_false] at hi
   subst hi
   refine any_op rfl ?_
   refine o_st HE HS rfl rfl rfl T.s2 (.there (.here .here)) rfl ?_; clear HS; intro w HS
   refine any_next (l2 := #[true, true, true, false]) (by kernel_rfl) ?_
   refine any_node (l := [3]) (by kernel_rfl) (by simp) fun i hi => ?_
   simp only [List.mem_cons, List.not_mem_nil, or_false] at hi
   subst hi
   refine any_op rfl ?_
   refine o_st HE HS rfl rfl rfl T.s31 (.here .here) rfl ?_; clear HS; intro w HS
   refine any_next (l2 := #[true, true, true, true]) (by kernel_rfl) ?_
   refine any_end (by kernel_rfl) ?_
   exact ⟨HE.defers, _, rfl, _, Res.nil.run rfl, ⟨_, rfl⟩, rfl, (HS.conv (L2 := [(0, .int .i64 e)]) (.here .here) ⟨rfl, trivial⟩).conv (L2 := [(0, .int .i64 0)]) (.there (.here .here)) ⟨rfl, trivial⟩⟩
  ·refine any_op rfl ?_
   refine o_st HE HS rfl rfl rfl T.s2 (.there (.here .here)) rfl ?_; clear HS; intro w HS
   refine any_next (l2 := #[true, false, true, false]) (by kernel_rfl) ?_
   refine any_node (l := [1]) (by kernel_rfl) (by simp) fun i hi => ?_
   simp only [List.mem_cons, List.not_mem_nil, or_false] at hi
   subst hi
   refine any_op rfl ?_
   refine o_assert HE rfl rfl T.n31 ?_; clear HE; intro a HE
   refine any_next (l2 := #[true, true, true, false]) (by kernel_rfl) ?_
   refine any_node (l := [3]) (by kernel_rfl) (by simp) fun i hi => ?_
   simp only [List.mem_cons, List.not_mem_nil, or_false] at hi
   subst hi
   refine any_op rfl ?_
   refine o_st HE HS rfl rfl rfl T.s31 (.here .here) rfl ?_; clear HS; intro w HS
   refine any_next (l2 := #[true, true, true, true]) (by kernel_rfl) ?_
   refine any_end (by kernel_rfl) ?_
   exact ⟨HE.defers, _, rfl, _, Res.nil.run rfl, ⟨_, rfl⟩, rfl, (HS.conv (L2 := [(0, .int .i64 e)]) (.here .here) ⟨rfl, trivial⟩).conv (L2 := [(0, .int .i64 0)]) (.there (.here .here)) ⟨rfl, trivial⟩⟩
 ·refine any_op rfl ?_
  refine o_st HE HS rfl rfl rfl T.s2 (.there (.here .here)) rfl ?_; clear HS; intro w HS
  refine any_next (l2 := #[false, false, true, false]) (by kernel_rfl) ?_
  refine any_node (l := [0]) (by kernel_rfl) (by simp) fun i hi => ?_
  simp only [List.mem_cons, List.not_mem_nil, or_false] at hi
  subst hi
  refine any_op rfl ?_
  refine o_move HE rfl rfl ?_; clear HE; intro a HE
  refine any_next (l2 := #[true, false, true, false]) (by kernel_rfl) ?_
  refine any_node (l := [1]) (by kernel_rfl) (by simp) fun i hi => ?_
  simp only [List.mem_cons, List.not_mem_nil, or_false] at hi
  subst hi
  refine any_op rfl ?_
  refine o_assert HE rfl rfl T.n31 ?_; clear HE; intro a HE
  refine any_next (l2 := #[true, true, true, false]) (by kernel_rfl) ?_
  refine any_node (l := [3]) (by kernel_rfl) (by simp) fun i hi => ?_
  simp only [List.mem_cons, List.not_mem_nil, or_false] at hi
  subst hi
  refine any_op rfl ?_
  refine o_st HE HS rfl rfl rfl T.s31 (.here .here) rfl ?_; clear HS; intro w HS
  refine any_next (l2 := #[true, true, true, true]) (by kernel_rfl) ?_
  refine any_end (by kernel_rfl) ?_
  exact ⟨HE.defers, _, rfl, _, Res.nil.run rfl, ⟨_, rfl⟩, rfl, (HS.conv (L2 := [(0, .int .i64 e)]) (.here .here) ⟨rfl, trivial⟩).conv (L2 := [(0, .int .i64 0)]) (.there (.here .here)) ⟨rfl, trivial⟩⟩
theorem c_caught {f : Nat} {cs : List Value} {R : Value → Prop} {E : Int → Prop} (w0 : World) (G : Heap) (hG : Sub G w0) (hf : goFn Tryd.prog f = true) (hone : ∀ v, R v → X.one v = true)
  (hc : ∀ w1 G1, Heap.le G G1 → Sub G1 w1 → Calls Tryd.prog f cs.toArray w1 (Throws w1 G1 31 (fun v _ => R v) E)) :
  Calls Tryd.prog 111 #[.func (.func f) #[] cs.toArray] w0 (Ret w0 G (fun v _ => (∃ u, R u ∧ v = .tuple #[u, .int .i64 0]) ∨ ∃ e, E e ∧ v = .tuple #[.int .i64 0, .int .i64 e])) := by
 refine enterD Tryd.func111 rfl Tryd.ntmps111 rfl ?_
 intro Q hQ a HE
 have HS := St.start0 hG
 refine wp_seq_k (fun K hK => ?_); refine wp_region_lit ?_
 refine o_allocL [(0, _)] HE rfl HS T.z2 ⟨rfl, trivial⟩ ?_; clear HE HS; intro B2 w a HS HE
 refine o_allocL [(0, _)] HE rfl HS T.z31 ⟨rfl, trivial⟩ ?_; clear HE HS; intro B3 w a HS HE
 refine hK _ _ ?_; clear hK K
 refine wp_seq_k (fun K hK => ?_); refine wp_region_lit ?_
 refine o_func HE rfl rfl rfl ?_; clear HE; intro a HE
 refine o_defer HE rfl ?_; clear HE; intro a HE
 refine hK _ _ ?_; clear hK K
 refine wp_seq_k (fun K hK => ?_); refine wp_region_lit ?_
 refine o_move HE rfl rfl ?_; clear HE; intro a HE
 refine o_callE HE rfl HS (us := []) (vs := []) rfl rfl hf (by simpa using hc _ _ HS.le HS.sub) ?_ ?_
 ·clear HS; intro e G' w HS hle he
  refine hQ _ _ _ ?_
  show Leaves _ _ a.tmps _ a.defers _ _
  rw [HE.defers]
  refine leaves_cons (f := 132) (args := #[.pointer (some ⟨B2, 0, none⟩), .pointer (some ⟨B3, 0, none⟩)]) (by simp) (run_go T.g132 _) ?_
  refine (catch_pan B2 B3 e [] HS).mono ?_
  rintro e' u' w' ⟨⟨v, rfl⟩, rfl, HS⟩
  refine ⟨_, (HE.resS HS rfl T.s2 (.there (.here .here)) rfl (HE.resS HS rfl T.s31 (.here .here) rfl .nil)).run rfl, ⟨_, _, HS.stop (List.nil_sublist _), rfl, .inr ⟨e, he, rfl⟩⟩⟩
 ·clear HE HS; intro v G' w a HS hle hv HE
  have h1 := hone v hv
  refine o_st HE HS rfl rfl h1 T.s2 (.there (.here .here)) rfl ?_; clear HS; intro w HS
  refine o_st HE HS rfl rfl rfl T.s31 (.here .here) rfl ?_; clear HS; intro w HS
  refine hK _ _ ?_; clear hK K
  refine wp_ret ?_
  refine hQ _ _ _ ?_
  show Leaves _ _ a.tmps _ a.defers _ _
  rw [HE.defers]
  refine leaves_cons (f := 132) (args := #[.pointer (some ⟨B2, 0, none⟩), .pointer (some ⟨B3, 0, none⟩)]) (by simp) (run_go T.g132 _) ?_
  refine (catch_idle B2 B3 _).mono ?_
  rintro e' u' w' ⟨⟨v', rfl⟩, rfl, rfl⟩
  refine ⟨_, (HE.resS HS rfl T.s2 (.there (.here .here)) rfl (HE.resS HS rfl T.s31 (.here .here) rfl .nil)).run rfl, ⟨_, _, HS.stop (List.nil_sublist _), rfl, .inl ⟨v, hv, rfl⟩⟩⟩
theorem c_caughtI {f : Nat} {cs : List Value} {spec : Except Int Int} (w0 : World) (G : Heap) (hG : Sub G w0) (hf : goFn Tryd.prog f = true)
  (hc : ∀ w1 G1, Heap.le G G1 → Sub G1 w1 → Calls Tryd.prog f cs.toArray w1 (Throws w1 G1 31 (fun v _ => ∃ n, spec = .ok n ∧ v = .int .i64 n) (fun e => spec = .error e))) :
  Calls Tryd.prog 111 #[.func (.func f) #[] cs.toArray] w0 (Ret w0 G (fun v _ => v = .tuple #[.int .i64 (okv spec), .int .i64 (erv spec)])) := by
 refine (c_caught w0 G hG hf (by rintro v ⟨n, _, rfl⟩; rfl) hc).mono fun e w' he => ?_
 cases e with
 | returned v =>
  obtain ⟨G', M', h1, h2, h⟩ := he
  refine ⟨G', M', h1, h2, ?_⟩
  rcases h with ⟨u, ⟨n, rfl, rfl⟩, rfl⟩ | ⟨e, rfl, rfl⟩
  ·rfl
  ·rfl
 | panicked c => exact he
 | outgrown => exact he

/-! `incognito/num.Count` -/
set_option maxRecDepth 100000 in
set_option maxHeartbeats 4000000 in
theorem c_count (s : Bs) (most : Int) (w0 : World) (G : Heap) (hG : Sub G w0) (hmr : I64 most) (hl : s.length ≤ 9223372036854775807):
  Calls Tryd.prog 84 #[str s, .int .i64 most] w0 (Ret w0 G (fun v _ => v = .tuple #[.int .i64 (okv (countS s most)), .int .i64 (erv (countS s most))])) := by
 refine enter Tryd.func84 rfl Tryd.ntmps84 rfl ?_
 intro Q hQ a HE
 have HS := St.start0 hG
 refine wp_seq_k (fun K hK => ?_); refine wp_region_lit ?_
 refine o_boxL [(0, _)] HE rfl HS rfl ⟨rfl, trivial⟩ ?_; clear HE HS; intro B2 w a HS HE
 refine o_boxL [(0, _)] HE rfl HS rfl ⟨rfl, trivial⟩ ?_; clear HE HS; intro B3 w a HS HE
 refine o_assign HE rfl rfl ?_; clear HE; intro a HE
 refine o_assign HE rfl rfl ?_; clear HE; intro a HE
 refine hK _ _ ?_; clear hK K
 refine wp_seq_k (fun K hK => ?_); refine wp_region_lit ?_
 refine o_func HE rfl rfl rfl ?_; clear HE; intro a HE
 obtain ⟨G2, hle4, hC3, HS'⟩ := HS.stillHead (n := 1) rfl; clear HS; have HS := HS'; clear HS'
 obtain ⟨G5, hle7, hC6, HS'⟩ := HS.stillHead (n := 1) rfl; clear HS; have HS := HS'; clear HS'
 replace hC3 := hC3.le hle7
 refine o_callP HE rfl HS rfl rfl T.g111 (c_caughtI (spec := countS s most) _ _ HS.sub T.g112 (fun w1 G1 hle hs => c_count1 s most _ _ w1 G1 hs (hC6.le hle) (hC3.le hle) hmr hl)) ?_
 clear HE HS; rintro _ w a HS rfl HE
 refine o_extract HE rfl rfl rfl ?_; clear HE; intro a HE
 refine o_extract HE rfl rfl rfl ?_; clear HE; intro a HE
 refine o_assign HE rfl rfl ?_; clear HE; intro a HE
 refine o_assign HE rfl rfl ?_; clear HE; intro a HE
 refine hK _ _ ?_; clear hK K
 refine wp_ret ?_
 show Q .ret _ _
 refine ret hQ HE rfl (HE.res rfl (HE.res rfl .nil)) ⟨_, _, HS.stop (List.nil_sublist _), rfl, ?_⟩
 exact rfl

/-! `incognito/incognitoref06.Print` -/
set_option maxRecDepth 100000 in
set_option maxHeartbeats 4000000 in
theorem c_Print6 (n : Int) (w0 : World) (G : Heap) (hG : Sub G w0) (hn : I64 n):
  Calls Tryd.prog 68 #[.int .i64 n] w0 (Ret w0 G (fun v _ => v = str (Lib.itoa n))) := by
 refine enter Tryd.func68 rfl Tryd.ntmps68 rfl ?_
 intro Q hQ a HE
 have HS := St.start0 hG
 refine wp_seq_k (fun K hK => ?_); refine wp_region_lit ?_
 refine o_assign HE rfl rfl ?_; clear HE; intro a HE
 refine hK _ _ ?_; clear hK K
 refine wp_seq_k (fun K hK => ?_); refine wp_region_lit ?_
 refine o_assign HE rfl rfl ?_; clear HE; intro a HE
 refine hK _ _ ?_; clear hK K
 refine wp_seq_k (fun K4 hK3 => ?_)
 refine wp_seq_k (fun K hK => ?_); refine wp_region_lit ?_
 refine o_move HE rfl rfl ?_; clear HE; intro a HE
 refine o_assign HE rfl rfl ?_; clear HE; intro a HE
 refine hK _ _ ?_; clear hK K
 refine wp_block ?_
 refine loop (fun (p : Int × Bs) a' w' => St w0 G [] G w' [] ∧ Env a' 30 [] [(0, .int .i64 n), (3, str p.2), (4, .int .i64 p.1)] ∧ (dd n.natAbs = dd p.1.natAbs ++ p.2 ∧ I64 p.1)) (fun (p : Int × Bs) => p.1.natAbs) (n, []) ⟨HS, HE.cut ⟨rfl, rfl, rfl, trivial⟩, ⟨by simp, hn⟩⟩ ?_
 clear HE HS; intro p a w ⟨HS, HE, ⟨hd, hr⟩⟩
 refine wp_seq_k (fun K8 hK7 => ?_)
 refine wp_block ?_
 refine wp_seq_k (fun K hK => ?_); refine wp_region_lit ?_
 refine o_move HE rfl rfl ?_; clear HE; intro a HE
 have hta := tdiv_abs p.1
 have htm := tmod_abs p.1
 refine o_remW HE rfl rfl rfl (by omega) ?_; clear HE; intro a HE
 refine o_assign HE rfl rfl ?_; clear HE; intro a HE
 refine hK _ _ ?_; clear hK K
 refine cutC (fun a' w' => w = w' ∧ Env a' 30 [] [(0, .int .i64 n), (3, str p.2), (4, .int .i64 p.1), (5, .int .i64 ((Int.tmod p.1 10).natAbs : Int)), (9, .int .i64 p.1), (10, .int .i64 (Int.tmod p.1 10))]) ?_ ?_
 ·skip
  refine wp_seq_k (fun K hK => ?_); refine wp_region_lit ?_
  refine o_move HE rfl rfl ?_; clear HE; intro a HE
  refine o_lss HE rfl rfl rfl ?_; clear HE; intro a HE
  refine hK _ _ ?_; clear hK K
  refine cond HE rfl (fun h11 => ?_) (fun h11 => ?_)
  ·have h11r := h11; try simp only [zz1, zz2, zz3, zz4, zz5, zz6, zz7, zz8, zz9, zza, zzb] at h11
   refine wp_region_lit ?_
   refine o_move HE rfl rfl ?_; clear HE; intro a HE
   refine o_negF HE rfl rfl (wrap_i64 (by omega)) ?_; clear HE; intro a HE
   refine o_assign HE rfl rfl ?_; clear HE; intro a HE
   exact ⟨rfl, HE.cut ⟨rfl, rfl, rfl, by show some (.int .i64 (-(Int.tmod p.1 10)) : Value) = some (.int .i64 ((Int.tmod p.1 10).natAbs : Int) : Value); congr 2; omega, rfl, rfl, trivial⟩⟩
  ·have h11r := h11; try simp only [zz1, zz2, zz3, zz4, zz5, zz6, zz7, zz8, zz9, zza, zzb] at h11
   refine wp_skip ?_
   exact ⟨rfl, HE.cut ⟨rfl, rfl, rfl, by show some (.int .i64 (Int.tmod p.1 10) : Value) = some (.int .i64 ((Int.tmod p.1 10).natAbs : Int) : Value); congr 2; omega, rfl, rfl, trivial⟩⟩
 clear HE; rintro a _ ⟨rfl, HE⟩
 refine wp_seq_k (fun K hK => ?_); refine wp_region_lit ?_
 refine o_move HE rfl rfl ?_; clear HE; intro a HE
 refine o_add HE rfl rfl rfl (by omega) ?_; clear HE; intro a HE
 refine o_conv HE rfl rfl T.c2_5 (wrap_u8 (by omega)) ?_; clear HE; intro a HE
 refine o_buildSl (cs := #[.int .u8 (48 + ((Int.tmod p.1 10).natAbs : Int))]) [(0, _)] HE rfl HS rfl T.l79 (by kernel_rfl) ⟨rfl, trivial⟩ ?_; clear HE HS; intro B18 w a HS HE
 refine o_b2s (ns := [48 + ((Int.tmod p.1 10).natAbs : Int)]) HE rfl HS rfl T.b79_9 (.here .here) rfl ?_; clear HE; intro a HE
 refine o_move HE rfl rfl ?_; clear HE; intro a HE
 refine o_cat HE rfl rfl rfl (by (have e1 := congrArg List.length hd; have e2 := dd_len hn; simp at e1 ⊢; omega)) ?_; clear HE; intro a HE
 refine o_assign HE rfl rfl ?_; clear HE; intro a HE
 refine hK _ _ ?_; clear hK K
 refine wp_seq_k (fun K hK => ?_); refine wp_region_lit ?_
 refine o_move HE rfl rfl ?_; clear HE; intro a HE
 refine o_quoT HE rfl rfl rfl (by decide) (wrap_i64 (by exact tdiv_range hr)) ?_; clear HE; intro a HE
 refine o_eqI HE rfl rfl rfl ?_; clear HE; intro a HE
 refine hK _ _ ?_; clear hK K
 refine cond HE rfl (fun h14 => ?_) (fun h14 => ?_)
 ·have h14r := h14; try simp only [zz1, zz2, zz3, zz4, zz5, zz6, zz7, zz8, zz9, zza, zzb] at h14
  refine wp_exit ?_
  refine hK3 _ _ ?_; clear hK3
  refine wp_seq_k (fun K16 hK15 => ?_)
  refine wp_seq_k (fun K hK => ?_); refine wp_region_lit ?_
  refine o_move HE rfl rfl ?_; clear HE; intro a HE
  refine o_lss HE rfl rfl rfl ?_; clear HE; intro a HE
  refine hK _ _ ?_; clear hK K
  refine cond HE rfl (fun h18 => ?_) (fun h18 => ?_)
  ·have h18r := h18; try simp only [zz1, zz2, zz3, zz4, zz5, zz6, zz7, zz8, zz9, zza, zzb] at h18
   refine wp_seq_k (fun K hK => ?_); refine wp_region_lit ?_
   refine o_move HE rfl rfl ?_; clear HE; intro a HE
   refine o_cat HE rfl rfl rfl (by (have e1 := congrArg List.length hd; have e2 := dd_len hn; simp at e1 ⊢; omega)) ?_; clear HE; intro a HE
   refine o_assign HE rfl rfl ?_; clear HE; intro a HE
   refine hK _ _ ?_; clear hK K
   refine wp_ret ?_
   show Q .ret _ _
   refine ret hQ HE rfl (HE.res rfl .nil) ⟨_, _, HS.stop (List.nil_sublist _), rfl, ?_⟩
   have e := (hd.trans (dd_last h14)).symm
   show _ = _
   unfold Lib.itoa
   rw [if_pos h18]
   exact congrArg str (congrArg (45 :: ·) e)
  ·have h18r := h18; try simp only [zz1, zz2, zz3, zz4, zz5, zz6, zz7, zz8, zz9, zza, zzb] at h18
   refine wp_skip ?_
   refine hK15 _ _ ?_; clear hK15
   refine wp_seq_k (fun K hK => ?_); refine wp_region_lit ?_
   refine o_move HE rfl rfl ?_; clear HE; intro a HE
   refine o_assign HE rfl rfl ?_; clear HE; intro a HE
   refine hK _ _ ?_; clear hK K
   refine wp_ret ?_
   show Q .ret _ _
   refine ret hQ HE rfl (HE.res rfl .nil) ⟨_, _, HS.stop (List.nil_sublist _), rfl, ?_⟩
   have e := (hd.trans (dd_last h14)).symm
   show _ = _
   unfold Lib.itoa
   rw [if_neg (by omega), show n.toNat = n.natAbs by omega]
   exact congrArg str e
 ·have h14r := h14; try simp only [zz1, zz2, zz3, zz4, zz5, zz6, zz7, zz8, zz9, zza, zzb] at h14
  refine wp_skip ?_
  refine hK7 _ _ ?_; clear hK7
  refine wp_region_lit ?_
  refine o_move HE rfl rfl ?_; clear HE; intro a HE
  refine o_quoT HE rfl rfl rfl (by decide) (wrap_i64 (by exact tdiv_range hr)) ?_; clear HE; intro a HE
  refine o_assign HE rfl rfl ?_; clear HE; intro a HE
  replace HS := HS.drop (M' := []) (sub_drop sub_nil)
  have hq := h14
  have hd2 := dd_step (m := p.1) (s := p.2) hq
  have hta := tdiv_abs p.1
  exact ⟨(Int.tdiv p.1 10, (([48 + ((Int.tmod p.1 10).natAbs : Int)]).map fun (n : Int) => UInt8.ofNat n.toNat) ++ p.2), ⟨HS, HE.cut ⟨rfl, rfl, rfl, trivial⟩, ⟨hd.trans hd2, tdiv_range hr⟩⟩, (by dsimp only; omega)⟩

theorem gPow : Tryd.prog.globalNamed "internal/strconv.uint64pow10" = some 7 := by kernel_rfl

/-! `incognito/line.Words` -/
set_option maxRecDepth 100000 in
set_option maxHeartbeats 4000000 in
theorem c_words (s : Bs) (w0 : World) (G : Heap) (hG : Sub G w0) (m8 : Int) (h8 : CellsAt G 8 0 [.int .i64 m8]) (hl : s.length ≤ 4294967280):
  Calls Tryd.prog 38 #[str s] w0 (Ret w0 G (fun v G' => ∃ A c, v = .tuple #[.slice A (wordsS s).1.length c, .int .i64 (wordsS s).2] ∧ (wordsS s).1.length ≤ c ∧ Rd Knd.s G' A (wordsS s).1)) := by
 refine enter Tryd.func38 rfl Tryd.ntmps38 rfl ?_
 intro Q hQ a HE
 have HS := St.start0 hG
 refine wp_seq_k (fun K hK => ?_); refine wp_region_lit ?_
 refine o_assign HE rfl rfl ?_; clear HE; intro a HE
 refine o_assign HE rfl rfl ?_; clear HE; intro a HE
 refine hK _ _ ?_; clear hK K
 refine wp_seq_k (fun K hK => ?_); refine wp_region_lit ?_
 refine o_move HE rfl rfl ?_; clear HE; intro a HE
 refine o_call HE rfl HS rfl rfl T.g77 (g_split s 32 _ _ HS.sub m8 h8 (by first | omega | (simp; done) | (simp; omega) | (have := cutA_len s 59; have := cutB_len s 59; omega))) ?_
 clear HE HS; rintro _ G2 w a HS hle2 ⟨vA2, vc2, rfl, hcp2, hR2⟩ HE
 replace h8 := h8.le hle2
 refine o_assign HE rfl rfl ?_; clear HE; intro a HE
 refine hK _ _ ?_; clear hK K
 refine wp_seq_k (fun K5 hK4 => ?_)
 refine wp_seq_k (fun K hK => ?_); refine wp_region_lit ?_
 refine o_move HE rfl rfl ?_; clear HE; intro a HE
 refine o_callP HE rfl HS rfl rfl T.g78 (g_contains (splitS 32 s) _ _ [] _ _ HS.sub hR2 (by have := splitS_len 32 s; omega)) ?_
 clear HE HS; rintro _ w a HS rfl HE
 refine hK _ _ ?_; clear hK K
 refine cond HE rfl (fun h7 => ?_) (fun h7 => ?_)
 ·have h7r := h7; try simp only [zz1, zz2, zz3, zz4, zz5, zz6, zz7, zz8, zz9, zza, zzb] at h7
  refine wp_seq_k (fun K hK => ?_); refine wp_region_lit ?_
  refine o_assign HE rfl rfl ?_; clear HE; intro a HE
  refine o_assign HE rfl rfl ?_; clear HE; intro a HE
  refine hK _ _ ?_; clear hK K
  refine wp_ret ?_
  show Q .ret _ _
  refine ret hQ HE rfl (HE.res rfl (HE.res rfl .nil)) ⟨_, _, HS.stop (List.nil_sublist _), rfl, ?_⟩
  have e : wordsS s = ([], 2) := by
   unfold wordsS
   rw [if_pos h7]
  rw [e]
  exact ⟨_, _, rfl, Nat.le_refl _, .nil⟩
 ·have h7r := h7; try simp only [zz1, zz2, zz3, zz4, zz5, zz6, zz7, zz8, zz9, zza, zzb] at h7
  refine wp_skip ?_
  refine hK4 _ _ ?_; clear hK4
  refine wp_seq_k (fun K hK => ?_); refine wp_region_lit ?_
  refine o_move HE rfl rfl ?_; clear HE; intro a HE
  refine o_assign HE rfl rfl ?_; clear HE; intro a HE
  refine o_assign HE rfl rfl ?_; clear HE; intro a HE
  refine hK _ _ ?_; clear hK K
  refine wp_ret ?_
  show Q .ret _ _
  refine ret hQ HE rfl (HE.res rfl (HE.res rfl .nil)) ⟨_, _, HS.stop (List.nil_sublist _), rfl, ?_⟩
  have e : wordsS s = (splitS 32 s, 0) := by
   unfold wordsS
   rw [if_neg h7]
  rw [e]
  exact ⟨_, _, rfl, by assumption, by assumption⟩

/-! `incognito/policy.ruled` -/
set_option maxRecDepth 100000 in
set_option maxHeartbeats 4000000 in
theorem c_ruled (d : Int) (r : Rul) (w0 : World) (G : Heap) (hG : Sub G w0) :
  Calls Tryd.prog 41 #[.int .i64 d, .agg #[.int .i64 r.way, .int .i64 r.size]] w0 (Ret w0 G (fun v _ => v = .bool (ruledB d r))) := by
 refine enter Tryd.func41 rfl Tryd.ntmps41 rfl ?_
 intro Q hQ a HE
 have HS := St.start0 hG
 refine wp_seq_k (fun K hK => ?_); refine wp_region_lit ?_
 refine o_boxL [(0, _), (1, _)] HE rfl HS rfl ⟨rfl, rfl, trivial⟩ ?_; clear HE HS; intro B3 w a HS HE
 refine o_assign HE rfl rfl ?_; clear HE; intro a HE
 refine hK _ _ ?_; clear hK K
 refine wp_seq_k (fun K3 hK2 => ?_)
 refine wp_seq_k (fun K hK => ?_); refine wp_region_lit ?_
 refine o_fld HE rfl rfl T.f23_0 ?_; clear HE; intro a HE
 refine o_ld HE rfl HS rfl T.s3 (.here .here) rfl ?_; clear HE; intro a HE
 refine hK _ _ ?_; clear hK K
 refine wp_block ?_
 refine wp_seq_k (fun K hK => ?_); refine wp_region_lit ?_
 refine o_eqI HE rfl rfl rfl ?_; clear HE; intro a HE
 refine o_assign HE rfl rfl ?_; clear HE; intro a HE
 refine hK _ _ ?_; clear hK K
 refine cond HE rfl (fun h6 => ?_) (fun h6 => ?_)
 ·have h6r := h6; try simp only [zz1, zz2, zz3, zz4, zz5, zz6, zz7, zz8, zz9, zza, zzb] at h6
  refine wp_seq_k (fun K hK => ?_); refine wp_region_lit ?_
  refine o_fld HE rfl rfl T.f23_1 ?_; clear HE; intro a HE
  refine o_ld HE rfl HS rfl T.s3 (.here .here) rfl ?_; clear HE; intro a HE
  refine o_geq HE rfl rfl rfl ?_; clear HE; intro a HE
  refine o_move HE rfl rfl ?_; clear HE; intro a HE
  refine cutL 4 (fun a' w' => w = w' ∧ Env a' 35 [] [(16, .bool ((decide (1 ≤ r.size)) && (decide (r.size ≤ 16)))), (0, .int .i64 d), (1, .agg #[.int .i64 r.way, .int .i64 r.size]), (3, .pointer (some ⟨B3, 0, none⟩)), (4, .bool false), (5, .pointer (some ⟨B3, 0, none⟩)), (6, .int .i64 r.way), (7, .bool (decide (r.way = 2))), (8, .bool (decide (r.way = 2)))]) ?_ ?_
  ·refine (Bool.eq_false_or_eq_true (decide (1 ≤ r.size))).elim (fun hb7 => ?_) (fun hb7 => ?_)
   ·skip
    have hk8 := hb7; try simp only [zz1, zz2, zz3, zz4, zz5, zz7, zz8, zz9, zza, zzb] at hk8
    refine op_on HE rfl rfl hb7 ?_
    refine o_fld HE rfl rfl T.f23_1 ?_; clear HE; intro a HE
    refine op_on HE rfl rfl hb7 ?_
    refine o_ld HE rfl HS rfl T.s3 (.here .here) rfl ?_; clear HE; intro a HE
    refine op_on HE rfl rfl hb7 ?_
    refine o_leq HE rfl rfl rfl ?_; clear HE; intro a HE
    refine o_pick_t HE rfl rfl hb7 rfl ?_; clear HE; intro a HE
    exact ⟨rfl, HE.cut ⟨by rw [hb7]; rfl, rfl, rfl, rfl, rfl, rfl, rfl, rfl, rfl, trivial⟩⟩
   ·skip
    have hk9 := hb7; try simp only [zz1, zz2, zz3, zz4, zz5, zz7, zz8, zz9, zza, zzb] at hk9
    refine g_off HE rfl rfl rfl hb7 ?_; clear HE; intro a HE
    refine g_off HE rfl rfl rfl hb7 ?_; clear HE; intro a HE
    refine g_off HE rfl rfl rfl hb7 ?_; clear HE; intro a HE
    refine o_pick_f HE rfl rfl hb7 rfl ?_; clear HE; intro a HE
    exact ⟨rfl, HE.cut ⟨by rw [hb7]; rfl, rfl, rfl, rfl, rfl, rfl, rfl, rfl, rfl, trivial⟩⟩
  clear HE; rintro a _ ⟨rfl, HE⟩
  refine o_assign HE rfl rfl ?_; clear HE; intro a HE
  refine hK _ _ ?_; clear hK K
  refine wp_ret ?_
  show Q .ret _ _
  refine ret hQ HE rfl (HE.res rfl .nil) ⟨_, _, HS.stop (List.nil_sublist _), rfl, ?_⟩
  show _ = _
  simp only [packed, Value.bool.injEq]
  simp only [ruledB]
  first | (simp_all; done) | (simp_all; omega) | (grind)
 ·have h6r := h6; try simp only [zz1, zz2, zz3, zz4, zz5, zz6, zz7, zz8, zz9, zza, zzb] at h6
  refine cutC (fun a' w' => w = w' ∧ Env a' 35 [] [(0, .int .i64 d), (1, .agg #[.int .i64 r.way, .int .i64 r.size]), (3, .pointer (some ⟨B3, 0, none⟩)), (4, .bool false), (5, .pointer (some ⟨B3, 0, none⟩)), (6, .int .i64 r.way), (7, .bool (decide (r.way = 2))), (8, .bool (decide (r.way = 2))), (17, .bool ((decide (r.way = 0)) || (decide (r.way = 1))))]) ?_ ?_
  ·skip
   refine wp_seq_k (fun K hK => ?_); refine wp_region_lit ?_
   refine o_eqI HE rfl rfl rfl ?_; clear HE; intro a HE
   refine o_assign HE rfl rfl ?_; clear HE; intro a HE
   refine hK _ _ ?_; clear hK K
   refine cond HE rfl (fun h12 => ?_) (fun h12 => ?_)
   ·have h12r := h12; try simp only [zz1, zz2, zz3, zz4, zz5, zz6, zz7, zz8, zz9, zza, zzb] at h12
    refine wp_skip ?_
    exact ⟨rfl, HE.cut ⟨rfl, rfl, rfl, rfl, rfl, rfl, rfl, rfl, by first | rfl | (rw [h12r]; rfl) | (rw [h12r]; rfl) | (simp [h12r, lk]; done), trivial⟩⟩
   ·have h12r := h12; try simp only [zz1, zz2, zz3, zz4, zz5, zz6, zz7, zz8, zz9, zza, zzb] at h12
    refine wp_region_lit ?_
    refine o_eqI HE rfl rfl rfl ?_; clear HE; intro a HE
    refine o_assign HE rfl rfl ?_; clear HE; intro a HE
    exact ⟨rfl, HE.cut ⟨rfl, rfl, rfl, rfl, rfl, rfl, rfl, rfl, by first | rfl | (rw [h12r]; rfl) | (rw [h12r]; rfl) | (simp [h12r, lk]; done), trivial⟩⟩
  clear HE; rintro a _ ⟨rfl, HE⟩
  refine cond HE rfl (fun h13 => ?_) (fun h13 => ?_)
  ·have h13r := h13; try simp only [zz1, zz2, zz3, zz4, zz5, zz6, zz7, zz8, zz9, zza, zzb] at h13
   refine wp_seq_k (fun K hK => ?_); refine wp_region_lit ?_
   refine o_fld HE rfl rfl T.f23_1 ?_; clear HE; intro a HE
   refine o_ld HE rfl HS rfl T.s3 (.here .here) rfl ?_; clear HE; intro a HE
   refine o_eqI HE rfl rfl rfl ?_; clear HE; intro a HE
   refine o_assign HE rfl rfl ?_; clear HE; intro a HE
   refine hK _ _ ?_; clear hK K
   refine wp_ret ?_
   show Q .ret _ _
   refine ret hQ HE rfl (HE.res rfl .nil) ⟨_, _, HS.stop (List.nil_sublist _), rfl, ?_⟩
   show _ = _
   simp only [packed, Value.bool.injEq]
   simp only [ruledB]
   first | (simp_all; done) | (simp_all; omega) | (grind)
  ·have h13r := h13; try simp only [zz1, zz2, zz3, zz4, zz5, zz6, zz7, zz8, zz9, zza, zzb] at h13
   refine wp_skip ?_
   refine hK2 _ _ ?_; clear hK2
   refine wp_seq_k (fun K hK => ?_); refine wp_region_lit ?_
   refine o_fld HE rfl rfl T.f23_0 ?_; clear HE; intro a HE
   refine o_ld HE rfl HS rfl T.s3 (.here .here) rfl ?_; clear HE; intro a HE
   refine o_eqI HE rfl rfl rfl ?_; clear HE; intro a HE
   refine o_move HE rfl rfl ?_; clear HE; intro a HE
   refine cutL 3 (fun a' w' => w = w' ∧ Env a' 35 [] [(29, .bool ((decide (r.way = 3)) && (decide (d = 4)))), (1, .agg #[.int .i64 r.way, .int .i64 r.size]), (3, .pointer (some ⟨B3, 0, none⟩)), (4, .bool false), (5, .pointer (some ⟨B3, 0, none⟩)), (6, .int .i64 r.way), (7, .bool (decide (r.way = 2))), (8, .bool (decide (r.way = 2))), (17, .bool ((decide (r.way = 0)) || (decide (r.way = 1))))]) ?_ ?_
   ·refine (Bool.eq_false_or_eq_true (decide (r.way = 3))).elim (fun hb15 => ?_) (fun hb15 => ?_)
    ·skip
     have hk16 := hb15; try simp only [zz1, zz2, zz3, zz4, zz5, zz7, zz8, zz9, zza, zzb] at hk16
     refine op_on HE rfl rfl hb15 ?_
     refine o_move HE rfl rfl ?_; clear HE; intro a HE
     refine op_on HE rfl rfl hb15 ?_
     refine o_eqI HE rfl rfl rfl ?_; clear HE; intro a HE
     refine o_pick_t HE rfl rfl hb15 rfl ?_; clear HE; intro a HE
     exact ⟨rfl, HE.cut ⟨by rw [hb15]; rfl, rfl, rfl, rfl, rfl, rfl, rfl, rfl, rfl, trivial⟩⟩
    ·skip
     have hk17 := hb15; try simp only [zz1, zz2, zz3, zz4, zz5, zz7, zz8, zz9, zza, zzb] at hk17
     refine g_off HE rfl rfl rfl hb15 ?_; clear HE; intro a HE
     refine g_off HE rfl rfl rfl hb15 ?_; clear HE; intro a HE
     refine o_pick_f HE rfl rfl hb15 rfl ?_; clear HE; intro a HE
     exact ⟨rfl, HE.cut ⟨by rw [hb15]; rfl, rfl, rfl, rfl, rfl, rfl, rfl, rfl, rfl, trivial⟩⟩
   clear HE; rintro a _ ⟨rfl, HE⟩
   refine o_move HE rfl rfl ?_; clear HE; intro a HE
   refine cutL 4 (fun a' w' => w = w' ∧ Env a' 35 [] [(34, .bool (((decide (r.way = 3)) && (decide (d = 4))) && (decide (r.size = 0)))), (1, .agg #[.int .i64 r.way, .int .i64 r.size]), (3, .pointer (some ⟨B3, 0, none⟩)), (4, .bool false), (5, .pointer (some ⟨B3, 0, none⟩)), (6, .int .i64 r.way), (7, .bool (decide (r.way = 2))), (8, .bool (decide (r.way = 2))), (17, .bool ((decide (r.way = 0)) || (decide (r.way = 1))))]) ?_ ?_
   ·refine (Bool.eq_false_or_eq_true ((decide (r.way = 3)) && (decide (d = 4)))).elim (fun hb18 => ?_) (fun hb18 => ?_)
    ·skip
     have hk19 := hb18; try simp only [zz1, zz2, zz3, zz4, zz5, zz7, zz8, zz9, zza, zzb] at hk19
     refine op_on HE rfl rfl hb18 ?_
     refine o_fld HE rfl rfl T.f23_1 ?_; clear HE; intro a HE
     refine op_on HE rfl rfl hb18 ?_
     refine o_ld HE rfl HS rfl T.s3 (.here .here) rfl ?_; clear HE; intro a HE
     refine op_on HE rfl rfl hb18 ?_
     refine o_eqI HE rfl rfl rfl ?_; clear HE; intro a HE
     refine o_pick_t HE rfl rfl hb18 rfl ?_; clear HE; intro a HE
     exact ⟨rfl, HE.cut ⟨by rw [hb18]; rfl, rfl, rfl, rfl, rfl, rfl, rfl, rfl, rfl, trivial⟩⟩
    ·skip
     have hk20 := hb18; try simp only [zz1, zz2, zz3, zz4, zz5, zz7, zz8, zz9, zza, zzb] at hk20
     refine g_off HE rfl rfl rfl hb18 ?_; clear HE; intro a HE
     refine g_off HE rfl rfl rfl hb18 ?_; clear HE; intro a HE
     refine g_off HE rfl rfl rfl hb18 ?_; clear HE; intro a HE
     refine o_pick_f HE rfl rfl hb18 rfl ?_; clear HE; intro a HE
     exact ⟨rfl, HE.cut ⟨by rw [hb18]; rfl, rfl, rfl, rfl, rfl, rfl, rfl, rfl, rfl, trivial⟩⟩
   clear HE; rintro a _ ⟨rfl, HE⟩
   refine o_assign HE rfl rfl ?_; clear HE; intro a HE
   refine hK _ _ ?_; clear hK K
   refine wp_ret ?_
   show Q .ret _ _
   refine ret hQ HE rfl (HE.res rfl .nil) ⟨_, _, HS.stop (List.nil_sublist _), rfl, ?_⟩
   show _ = _
   simp only [packed, Value.bool.injEq]
   simp only [ruledB]
   first | (simp_all; done) | (simp_all; omega) | (grind)

/-! `incognito/incognitoref25.Ruled` -/
set_option maxRecDepth 100000 in
set_option maxHeartbeats 4000000 in
theorem c_Ruled (d : Int) (r : Rul) (w0 : World) (G : Heap) (hG : Sub G w0) :
  Calls Tryd.prog 34 #[.int .i64 d, .agg #[.int .i64 r.way, .int .i64 r.size]] w0 (Ret w0 G (fun v _ => v = .bool (ruledB d r))) := by
 refine enter Tryd.func34 rfl Tryd.ntmps34 rfl ?_
 intro Q hQ a HE
 have HS := St.start0 hG
 refine wp_seq_k (fun K hK => ?_); refine wp_region_lit ?_
 refine o_boxL [(0, _), (1, _)] HE rfl HS rfl ⟨rfl, rfl, trivial⟩ ?_; clear HE HS; intro B3 w a HS HE
 refine o_assign HE rfl rfl ?_; clear HE; intro a HE
 refine hK _ _ ?_; clear hK K
 refine wp_seq_k (fun K3 hK2 => ?_)
 refine wp_seq_k (fun K hK => ?_); refine wp_region_lit ?_
 refine o_fld HE rfl rfl T.f23_0 ?_; clear HE; intro a HE
 refine o_ld HE rfl HS rfl T.s3 (.here .here) rfl ?_; clear HE; intro a HE
 refine o_eqI HE rfl rfl rfl ?_; clear HE; intro a HE
 refine hK _ _ ?_; clear hK K
 refine cond HE rfl (fun h5 => ?_) (fun h5 => ?_)
 ·have h5r := h5; try simp only [zz1, zz2, zz3, zz4, zz5, zz6, zz7, zz8, zz9, zza, zzb] at h5
  refine wp_seq_k (fun K hK => ?_); refine wp_region_lit ?_
  refine o_fld HE rfl rfl T.f23_1 ?_; clear HE; intro a HE
  refine o_ld HE rfl HS rfl T.s3 (.here .here) rfl ?_; clear HE; intro a HE
  refine o_geq HE rfl rfl rfl ?_; clear HE; intro a HE
  refine o_move HE rfl rfl ?_; clear HE; intro a HE
  refine cutL 4 (fun a' w' => w = w' ∧ Env a' 38 [] [(15, .bool ((decide (1 ≤ r.size)) && (decide (r.size ≤ 16)))), (0, .int .i64 d), (1, .agg #[.int .i64 r.way, .int .i64 r.size]), (3, .pointer (some ⟨B3, 0, none⟩)), (4, .bool false), (5, .pointer (some ⟨B3, 0, none⟩)), (6, .int .i64 r.way), (7, .bool (decide (r.way = 2)))]) ?_ ?_
  ·refine (Bool.eq_false_or_eq_true (decide (1 ≤ r.size))).elim (fun hb6 => ?_) (fun hb6 => ?_)
   ·skip
    have hk7 := hb6; try simp only [zz1, zz2, zz3, zz4, zz5, zz7, zz8, zz9, zza, zzb] at hk7
    refine op_on HE rfl rfl hb6 ?_
    refine o_fld HE rfl rfl T.f23_1 ?_; clear HE; intro a HE
    refine op_on HE rfl rfl hb6 ?_
    refine o_ld HE rfl HS rfl T.s3 (.here .here) rfl ?_; clear HE; intro a HE
    refine op_on HE rfl rfl hb6 ?_
    refine o_leq HE rfl rfl rfl ?_; clear HE; intro a HE
    refine o_pick_t HE rfl rfl hb6 rfl ?_; clear HE; intro a HE
    exact ⟨rfl, HE.cut ⟨by rw [hb6]; rfl, rfl, rfl, rfl, rfl, rfl, rfl, rfl, trivial⟩⟩
   ·skip
    have hk8 := hb6; try simp only [zz1, zz2, zz3, zz4, zz5, zz7, zz8, zz9, zza, zzb] at hk8
    refine g_off HE rfl rfl rfl hb6 ?_; clear HE; intro a HE
    refine g_off HE rfl rfl rfl hb6 ?_; clear HE; intro a HE
    refine g_off HE rfl rfl rfl hb6 ?_; clear HE; intro a HE
    refine o_pick_f HE rfl rfl hb6 rfl ?_; clear HE; intro a HE
    exact ⟨rfl, HE.cut ⟨by rw [hb6]; rfl, rfl, rfl, rfl, rfl, rfl, rfl, rfl, trivial⟩⟩
  clear HE; rintro a _ ⟨rfl, HE⟩
  refine o_assign HE rfl rfl ?_; clear HE; intro a HE
  refine hK _ _ ?_; clear hK K
  refine wp_ret ?_
  show Q .ret _ _
  refine ret hQ HE rfl (HE.res rfl .nil) ⟨_, _, HS.stop (List.nil_sublist _), rfl, ?_⟩
  show _ = _
  simp only [packed, Value.bool.injEq]
  simp only [ruledB]
  first | (simp_all; done) | (simp_all; omega) | (grind)
 ·have h5r := h5; try simp only [zz1, zz2, zz3, zz4, zz5, zz6, zz7, zz8, zz9, zza, zzb] at h5
  refine wp_skip ?_
  refine hK2 _ _ ?_; clear hK2
  refine wp_seq_k (fun K hK => ?_); refine wp_region_lit ?_
  refine o_fld HE rfl rfl T.f23_1 ?_; clear HE; intro a HE
  refine o_ld HE rfl HS rfl T.s3 (.here .here) rfl ?_; clear HE; intro a HE
  refine o_eqI HE rfl rfl rfl ?_; clear HE; intro a HE
  refine o_move HE rfl rfl ?_; clear HE; intro a HE
  refine cutL 18 (fun a' w' => w = w' ∧ Env a' 38 [] [(37, .bool ((decide (r.size = 0)) && (((decide (r.way = 0)) || (decide (r.way = 1))) || ((decide (r.way = 3)) && (decide (d = 4)))))), (1, .agg #[.int .i64 r.way, .int .i64 r.size]), (3, .pointer (some ⟨B3, 0, none⟩)), (4, .bool false), (5, .pointer (some ⟨B3, 0, none⟩)), (6, .int .i64 r.way), (7, .bool (decide (r.way = 2)))]) ?_ ?_
  ·refine (Bool.eq_false_or_eq_true (decide (r.size = 0))).elim (fun hb10 => ?_) (fun hb10 => ?_)
   ·skip
    have hk11 := hb10; try simp only [zz1, zz2, zz3, zz4, zz5, zz7, zz8, zz9, zza, zzb] at hk11
    refine op_on HE rfl rfl hb10 ?_
    refine o_fld HE rfl rfl T.f23_0 ?_; clear HE; intro a HE
    refine op_on HE rfl rfl hb10 ?_
    refine o_ld HE rfl HS rfl T.s3 (.here .here) rfl ?_; clear HE; intro a HE
    refine op_on HE rfl rfl hb10 ?_
    refine o_eqI HE rfl rfl rfl ?_; clear HE; intro a HE
    refine op_on HE rfl rfl hb10 ?_
    refine o_move HE rfl rfl ?_; clear HE; intro a HE
    refine cutL 4 (fun a' w' => w = w' ∧ Env a' 38 [] [(27, .bool ((decide (r.way = 0)) || (decide (r.way = 1)))), (0, .int .i64 d), (1, .agg #[.int .i64 r.way, .int .i64 r.size]), (3, .pointer (some ⟨B3, 0, none⟩)), (4, .bool false), (5, .pointer (some ⟨B3, 0, none⟩)), (6, .int .i64 r.way), (7, .bool (decide (r.way = 2))), (19, .bool (decide (r.size = 0)))]) ?_ ?_
    ·refine (Bool.eq_false_or_eq_true (decide (r.way = 0))).elim (fun hb12 => ?_) (fun hb12 => ?_)
     ·skip
      have hk13 := hb12; try simp only [zz1, zz2, zz3, zz4, zz5, zz7, zz8, zz9, zza, zzb] at hk13
      refine g_off HE rfl rfl rfl hb12 ?_; clear HE; intro a HE
      refine g_off HE rfl rfl rfl hb12 ?_; clear HE; intro a HE
      refine g_off HE rfl rfl rfl hb12 ?_; clear HE; intro a HE
      refine op_on HE rfl rfl hb10 ?_
      refine o_pick_t HE rfl rfl hb12 rfl ?_; clear HE; intro a HE
      exact ⟨rfl, HE.cut ⟨by rw [hb12]; rfl, rfl, rfl, rfl, rfl, rfl, rfl, rfl, rfl, trivial⟩⟩
     ·skip
      have hk14 := hb12; try simp only [zz1, zz2, zz3, zz4, zz5, zz7, zz8, zz9, zza, zzb] at hk14
      refine op_on HE rfl rfl hb12 ?_
      refine o_fld HE rfl rfl T.f23_0 ?_; clear HE; intro a HE
      refine op_on HE rfl rfl hb12 ?_
      refine o_ld HE rfl HS rfl T.s3 (.here .here) rfl ?_; clear HE; intro a HE
      refine op_on HE rfl rfl hb12 ?_
      refine o_eqI HE rfl rfl rfl ?_; clear HE; intro a HE
      refine op_on HE rfl rfl hb10 ?_
      refine o_pick_f HE rfl rfl hb12 rfl ?_; clear HE; intro a HE
      exact ⟨rfl, HE.cut ⟨by rw [hb12]; rfl, rfl, rfl, rfl, rfl, rfl, rfl, rfl, rfl, trivial⟩⟩
    clear HE; rintro a _ ⟨rfl, HE⟩
    refine op_on HE rfl rfl hb10 ?_
    refine o_move HE rfl rfl ?_; clear HE; intro a HE
    refine cutL 8 (fun a' w' => w = w' ∧ Env a' 38 [] [(36, .bool (((decide (r.way = 0)) || (decide (r.way = 1))) || ((decide (r.way = 3)) && (decide (d = 4))))), (1, .agg #[.int .i64 r.way, .int .i64 r.size]), (3, .pointer (some ⟨B3, 0, none⟩)), (4, .bool false), (5, .pointer (some ⟨B3, 0, none⟩)), (6, .int .i64 r.way), (7, .bool (decide (r.way = 2))), (19, .bool (decide (r.size = 0)))]) ?_ ?_
    ·refine (Bool.eq_false_or_eq_true ((decide (r.way = 0)) || (decide (r.way = 1)))).elim (fun hb15 => ?_) (fun hb15 => ?_)
     ·skip
      have hk16 := hb15; try simp only [zz1, zz2, zz3, zz4, zz5, zz7, zz8, zz9, zza, zzb] at hk16
      refine g_off HE rfl rfl rfl hb15 ?_; clear HE; intro a HE
      refine g_off HE rfl rfl rfl hb15 ?_; clear HE; intro a HE
      refine g_off HE rfl rfl rfl hb15 ?_; clear HE; intro a HE
      refine g_off HE rfl rfl rfl hb15 ?_; clear HE; intro a HE
      refine g_offu HE rfl rfl rfl ?_; clear HE; intro a HE
      refine g_offu HE rfl rfl rfl ?_; clear HE; intro a HE
      refine g_off HE rfl rfl rfl hb15 ?_; clear HE; intro a HE
      refine op_on HE rfl rfl hb10 ?_
      refine o_pick_t HE rfl rfl hb15 rfl ?_; clear HE; intro a HE
      exact ⟨rfl, HE.cut ⟨by rw [hb15]; rfl, rfl, rfl, rfl, rfl, rfl, rfl, rfl, trivial⟩⟩
     ·skip
      have hk17 := hb15; try simp only [zz1, zz2, zz3, zz4, zz5, zz7, zz8, zz9, zza, zzb] at hk17
      refine op_on HE rfl rfl hb15 ?_
      refine o_fld HE rfl rfl T.f23_0 ?_; clear HE; intro a HE
      refine op_on HE rfl rfl hb15 ?_
      refine o_ld HE rfl HS rfl T.s3 (.here .here) rfl ?_; clear HE; intro a HE
      refine op_on HE rfl rfl hb15 ?_
      refine o_eqI HE rfl rfl rfl ?_; clear HE; intro a HE
      refine op_on HE rfl rfl hb15 ?_
      refine o_move HE rfl rfl ?_; clear HE; intro a HE
      refine cutL 3 (fun a' w' => w = w' ∧ Env a' 38 [] [(35, .bool ((decide (r.way = 3)) && (decide (d = 4)))), (1, .agg #[.int .i64 r.way, .int .i64 r.size]), (3, .pointer (some ⟨B3, 0, none⟩)), (4, .bool false), (5, .pointer (some ⟨B3, 0, none⟩)), (6, .int .i64 r.way), (7, .bool (decide (r.way = 2))), (19, .bool (decide (r.size = 0))), (28, .bool ((decide (r.way = 0)) || (decide (r.way = 1))))]) ?_ ?_
      ·refine (Bool.eq_false_or_eq_true (decide (r.way = 3))).elim (fun hb18 => ?_) (fun hb18 => ?_)
       ·skip
        have hk19 := hb18; try simp only [zz1, zz2, zz3, zz4, zz5, zz7, zz8, zz9, zza, zzb] at hk19
        refine op_on HE rfl rfl hb18 ?_
        refine o_move HE rfl rfl ?_; clear HE; intro a HE
        refine op_on HE rfl rfl hb18 ?_
        refine o_eqI HE rfl rfl rfl ?_; clear HE; intro a HE
        refine op_on HE rfl rfl hb15 ?_
        refine o_pick_t HE rfl rfl hb18 rfl ?_; clear HE; intro a HE
        exact ⟨rfl, HE.cut ⟨by rw [hb18]; rfl, rfl, rfl, rfl, rfl, rfl, rfl, rfl, rfl, trivial⟩⟩
       ·skip
        have hk20 := hb18; try simp only [zz1, zz2, zz3, zz4, zz5, zz7, zz8, zz9, zza, zzb] at hk20
        refine g_off HE rfl rfl rfl hb18 ?_; clear HE; intro a HE
        refine g_off HE rfl rfl rfl hb18 ?_; clear HE; intro a HE
        refine op_on HE rfl rfl hb15 ?_
        refine o_pick_f HE rfl rfl hb18 rfl ?_; clear HE; intro a HE
        exact ⟨rfl, HE.cut ⟨by rw [hb18]; rfl, rfl, rfl, rfl, rfl, rfl, rfl, rfl, rfl, trivial⟩⟩
      clear HE; rintro a _ ⟨rfl, HE⟩
      refine op_on HE rfl rfl hb10 ?_
      refine o_pick_f HE rfl rfl hb15 rfl ?_; clear HE; intro a HE
      exact ⟨rfl, HE.cut ⟨by rw [hb15]; rfl, rfl, rfl, rfl, rfl, rfl, rfl, rfl, trivial⟩⟩
    clear HE; rintro a _ ⟨rfl, HE⟩
    refine o_pick_t HE rfl rfl hb10 rfl ?_; clear HE; intro a HE
    exact ⟨rfl, HE.cut ⟨by rw [hb10]; rfl, rfl, rfl, rfl, rfl, rfl, rfl, trivial⟩⟩
   ·skip
    have hk21 := hb10; try simp only [zz1, zz2, zz3, zz4, zz5, zz7, zz8, zz9, zza, zzb] at hk21
    refine g_off HE rfl rfl rfl hb10 ?_; clear HE; intro a HE
    refine g_off HE rfl rfl rfl hb10 ?_; clear HE; intro a HE
    refine g_off HE rfl rfl rfl hb10 ?_; clear HE; intro a HE
    refine g_off HE rfl rfl rfl hb10 ?_; clear HE; intro a HE
    refine g_offu HE rfl rfl rfl ?_; clear HE; intro a HE
    refine g_offu HE rfl rfl rfl ?_; clear HE; intro a HE
    refine g_offu HE rfl rfl rfl ?_; clear HE; intro a HE
    refine g_off HE rfl rfl rfl hb10 ?_; clear HE; intro a HE
    refine g_off HE rfl rfl rfl hb10 ?_; clear HE; intro a HE
    refine g_offu HE rfl rfl rfl ?_; clear HE; intro a HE
    refine g_offu HE rfl rfl rfl ?_; clear HE; intro a HE
    refine g_offu HE rfl rfl rfl ?_; clear HE; intro a HE
    refine g_offu HE rfl rfl rfl ?_; clear HE; intro a HE
    refine g_offu HE rfl rfl rfl ?_; clear HE; intro a HE
    refine g_offu HE rfl rfl rfl ?_; clear HE; intro a HE
    refine g_offu HE rfl rfl rfl ?_; clear HE; intro a HE
    refine g_off HE rfl rfl rfl hb10 ?_; clear HE; intro a HE
    refine o_pick_f HE rfl rfl hb10 rfl ?_; clear HE; intro a HE
    exact ⟨rfl, HE.cut ⟨by rw [hb10]; rfl, rfl, rfl, rfl, rfl, rfl, rfl, trivial⟩⟩
  clear HE; rintro a _ ⟨rfl, HE⟩
  refine o_assign HE rfl rfl ?_; clear HE; intro a HE
  refine hK _ _ ?_; clear hK K
  refine wp_ret ?_
  show Q .ret _ _
  refine ret hQ HE rfl (HE.res rfl .nil) ⟨_, _, HS.stop (List.nil_sublist _), rfl, ?_⟩
  show _ = _
  simp only [packed, Value.bool.injEq]
  simp only [ruledB]
  first | (simp_all; done) | (simp_all; omega) | (grind)

/-! `incognito/policy.way` -/
set_option maxRecDepth 100000 in
set_option maxHeartbeats 4000000 in
theorem c_way (s : Bs) (w0 : World) (G : Heap) (hG : Sub G w0) (hgw : CellsAt G 1 0 [str [107, 101, 101, 112], str [111, 114, 100, 105, 110, 97, 108], str [107, 101, 121, 101, 100], str [114, 97, 110, 107], str [100, 114, 111, 112]]):
  Calls Tryd.prog 72 #[str s] w0 (Ret w0 G (fun v _ => v = .tuple #[.int .i64 (wayS s).1, .bool (wayS s).2])) := by
 refine enter Tryd.func72 rfl Tryd.ntmps72 rfl ?_
 intro Q hQ a HE
 have HS := St.start0 hG
 refine wp_seq_k (fun K hK => ?_); refine wp_region_lit ?_
 refine o_assign HE rfl rfl ?_; clear HE; intro a HE
 refine o_assign HE rfl rfl ?_; clear HE; intro a HE
 refine hK _ _ ?_; clear hK K
 refine wp_seq_k (fun K3 hK2 => ?_)
 refine wp_seq_k (fun K hK => ?_); refine wp_region_lit ?_
 refine o_ldIA HE rfl HS rfl hgw T.a86 ?_; clear HE; intro a HE
 refine o_move HE rfl rfl ?_; clear HE; intro a HE
 refine hK _ _ ?_; clear hK K
 refine wp_block ?_
 refine wp_loop_rounds 6 ?_
 rw [rounds_succ]
 refine wp_seq_k (fun K hK => ?_); refine wp_region_lit ?_
 refine o_lss HE rfl rfl rfl ?_; clear HE; intro a HE
 refine hK _ _ ?_; clear hK K
 refine wp_seq_k (fun K7 hK6 => ?_)
 refine cond HE rfl (fun h8 => ?_) (fun h8 => ?_)
 ·have h8r := h8; try simp only [zz1, zz2, zz3, zz4, zz5, zz6, zz7, zz8, zz9, zza, zzb] at h8
  refine wp_skip ?_
  refine hK6 _ _ ?_; clear hK6
  refine wp_seq_k (fun K10 hK9 => ?_)
  refine wp_block ?_
  refine wp_seq_k (fun K hK => ?_); refine wp_region_lit ?_
  refine o_move HE rfl rfl ?_; clear HE; intro a HE
  refine o_ixV HE rfl rfl rfl T.r86 Tryd.underlying86 (by decide) rfl (.inl ⟨T.s9, rfl⟩) ?_; clear HE; intro a HE
  refine o_assign HE rfl rfl ?_; clear HE; intro a HE
  refine o_assign HE rfl rfl ?_; clear HE; intro a HE
  refine hK _ _ ?_; clear hK K
  refine wp_seq_k (fun K hK => ?_); refine wp_region_lit ?_
  refine o_move HE rfl rfl ?_; clear HE; intro a HE
  refine o_move HE rfl rfl ?_; clear HE; intro a HE
  refine o_eqS HE rfl rfl rfl ?_; clear HE; intro a HE
  refine hK _ _ ?_; clear hK K
  refine cond HE rfl (fun h13 => ?_) (fun h13 => ?_)
  ·have h13r := h13; try simp only [zz1, zz2, zz3, zz4, zz5, zz6, zz7, zz8, zz9, zza, zzb] at h13
   refine wp_seq_k (fun K hK => ?_); refine wp_region_lit ?_
   refine o_move HE rfl rfl ?_; clear HE; intro a HE
   refine o_assign HE rfl rfl ?_; clear HE; intro a HE
   refine o_assign HE rfl rfl ?_; clear HE; intro a HE
   refine hK _ _ ?_; clear hK K
   refine wp_ret ?_
   show Q .ret _ _
   refine ret hQ HE rfl (HE.res rfl (HE.res rfl .nil)) ⟨_, _, HS.stop (List.nil_sublist _), rfl, ?_⟩
   have hp : wayS s = (0, true) := by
    unfold wayS
    rw [if_pos (by simpa using h13)]
   show _ = _
   rw [hp]
   rfl
  ·have h13r := h13; try simp only [zz1, zz2, zz3, zz4, zz5, zz6, zz7, zz8, zz9, zza, zzb] at h13
   refine wp_skip ?_
   refine hK9 _ _ ?_; clear hK9
   refine wp_region_lit ?_
   refine o_add HE rfl rfl rfl (by omega) ?_; clear HE; intro a HE
   refine o_move HE rfl rfl ?_; clear HE; intro a HE
   show Code.rounds _ _ _ _ _ _
   replace HE := HE.cut (L' := [(0, str s), (6, .agg #[str [107, 101, 101, 112], str [111, 114, 100, 105, 110, 97, 108], str [107, 101, 121, 101, 100], str [114, 97, 110, 107], str [100, 114, 111, 112]]), (7, .int .i64 1)]) ⟨rfl, rfl, rfl, trivial⟩
   rw [rounds_succ]
   refine wp_seq_k (fun K hK => ?_); refine wp_region_lit ?_
   refine o_lss HE rfl rfl rfl ?_; clear HE; intro a HE
   refine hK _ _ ?_; clear hK K
   refine wp_seq_k (fun K17 hK16 => ?_)
   refine cond HE rfl (fun h18 => ?_) (fun h18 => ?_)
   ·have h18r := h18; try simp only [zz1, zz2, zz3, zz4, zz5, zz6, zz7, zz8, zz9, zza, zzb] at h18
    refine wp_skip ?_
    refine hK16 _ _ ?_; clear hK16
    refine wp_seq_k (fun K20 hK19 => ?_)
    refine wp_block ?_
    refine wp_seq_k (fun K hK => ?_); refine wp_region_lit ?_
    refine o_move HE rfl rfl ?_; clear HE; intro a HE
    refine o_ixV HE rfl rfl rfl T.r86 Tryd.underlying86 (by decide) rfl (.inl ⟨T.s9, rfl⟩) ?_; clear HE; intro a HE
    refine o_assign HE rfl rfl ?_; clear HE; intro a HE
    refine o_assign HE rfl rfl ?_; clear HE; intro a HE
    refine hK _ _ ?_; clear hK K
    refine wp_seq_k (fun K hK => ?_); refine wp_region_lit ?_
    refine o_move HE rfl rfl ?_; clear HE; intro a HE
    refine o_move HE rfl rfl ?_; clear HE; intro a HE
    refine o_eqS HE rfl rfl rfl ?_; clear HE; intro a HE
    refine hK _ _ ?_; clear hK K
    refine cond HE rfl (fun h23 => ?_) (fun h23 => ?_)
    ·have h23r := h23; try simp only [zz1, zz2, zz3, zz4, zz5, zz6, zz7, zz8, zz9, zza, zzb] at h23
     refine wp_seq_k (fun K hK => ?_); refine wp_region_lit ?_
     refine o_move HE rfl rfl ?_; clear HE; intro a HE
     refine o_assign HE rfl rfl ?_; clear HE; intro a HE
     refine o_assign HE rfl rfl ?_; clear HE; intro a HE
     refine hK _ _ ?_; clear hK K
     refine wp_ret ?_
     show Q .ret _ _
     refine ret hQ HE rfl (HE.res rfl (HE.res rfl .nil)) ⟨_, _, HS.stop (List.nil_sublist _), rfl, ?_⟩
     have hp : wayS s = (1, true) := by
      unfold wayS
      rw [if_neg (by simpa using h13)]
      rw [if_pos (by simpa using h23)]
     show _ = _
     rw [hp]
     rfl
    ·have h23r := h23; try simp only [zz1, zz2, zz3, zz4, zz5, zz6, zz7, zz8, zz9, zza, zzb] at h23
     refine wp_skip ?_
     refine hK19 _ _ ?_; clear hK19
     refine wp_region_lit ?_
     refine o_add HE rfl rfl rfl (by omega) ?_; clear HE; intro a HE
     refine o_move HE rfl rfl ?_; clear HE; intro a HE
     show Code.rounds _ _ _ _ _ _
     replace HE := HE.cut (L' := [(0, str s), (6, .agg #[str [107, 101, 101, 112], str [111, 114, 100, 105, 110, 97, 108], str [107, 101, 121, 101, 100], str [114, 97, 110, 107], str [100, 114, 111, 112]]), (7, .int .i64 2)]) ⟨rfl, rfl, rfl, trivial⟩
     rw [rounds_succ]
     refine wp_seq_k (fun K hK => ?_); refine wp_region_lit ?_
     refine o_lss HE rfl rfl rfl ?_; clear HE; intro a HE
     refine hK _ _ ?_; clear hK K
     refine wp_seq_k (fun K27 hK26 => ?_)
     refine cond HE rfl (fun h28 => ?_) (fun h28 => ?_)
     ·have h28r := h28; try simp only [zz1, zz2, zz3, zz4, zz5, zz6, zz7, zz8, zz9, zza, zzb] at h28
      refine wp_skip ?_
      refine hK26 _ _ ?_; clear hK26
      refine wp_seq_k (fun K30 hK29 => ?_)
      refine wp_block ?_
      refine wp_seq_k (fun K hK => ?_); refine wp_region_lit ?_
      refine o_move HE rfl rfl ?_; clear HE; intro a HE
      refine o_ixV HE rfl rfl rfl T.r86 Tryd.underlying86 (by decide) rfl (.inl ⟨T.s9, rfl⟩) ?_; clear HE; intro a HE
      refine o_assign HE rfl rfl ?_; clear HE; intro a HE
      refine o_assign HE rfl rfl ?_; clear HE; intro a HE
      refine hK _ _ ?_; clear hK K
      refine wp_seq_k (fun K hK => ?_); refine wp_region_lit ?_
      refine o_move HE rfl rfl ?_; clear HE; intro a HE
      refine o_move HE rfl rfl ?_; clear HE; intro a HE
      refine o_eqS HE rfl rfl rfl ?_; clear HE; intro a HE
      refine hK _ _ ?_; clear hK K
      refine cond HE rfl (fun h33 => ?_) (fun h33 => ?_)
      ·have h33r := h33; try simp only [zz1, zz2, zz3, zz4, zz5, zz6, zz7, zz8, zz9, zza, zzb] at h33
       refine wp_seq_k (fun K hK => ?_); refine wp_region_lit ?_
       refine o_move HE rfl rfl ?_; clear HE; intro a HE
       refine o_assign HE rfl rfl ?_; clear HE; intro a HE
       refine o_assign HE rfl rfl ?_; clear HE; intro a HE
       refine hK _ _ ?_; clear hK K
       refine wp_ret ?_
       show Q .ret _ _
       refine ret hQ HE rfl (HE.res rfl (HE.res rfl .nil)) ⟨_, _, HS.stop (List.nil_sublist _), rfl, ?_⟩
       have hp : wayS s = (2, true) := by
        unfold wayS
        rw [if_neg (by simpa using h13)]
        rw [if_neg (by simpa using h23)]
        rw [if_pos (by simpa using h33)]
       show _ = _
       rw [hp]
       rfl
      ·have h33r := h33; try simp only [zz1, zz2, zz3, zz4, zz5, zz6, zz7, zz8, zz9, zza, zzb] at h33
       refine wp_skip ?_
       refine hK29 _ _ ?_; clear hK29
       refine wp_region_lit ?_
       refine o_add HE rfl rfl rfl (by omega) ?_; clear HE; intro a HE
       refine o_move HE rfl rfl ?_; clear HE; intro a HE
       show Code.rounds _ _ _ _ _ _
       replace HE := HE.cut (L' := [(0, str s), (6, .agg #[str [107, 101, 101, 112], str [111, 114, 100, 105, 110, 97, 108], str [107, 101, 121, 101, 100], str [114, 97, 110, 107], str [100, 114, 111, 112]]), (7, .int .i64 3)]) ⟨rfl, rfl, rfl, trivial⟩
       rw [rounds_succ]
       refine wp_seq_k (fun K hK => ?_); refine wp_region_lit ?_
       refine o_lss HE rfl rfl rfl ?_; clear HE; intro a HE
       refine hK _ _ ?_; clear hK K
       refine wp_seq_k (fun K37 hK36 => ?_)
       refine cond HE rfl (fun h38 => ?_) (fun h38 => ?_)
       ·have h38r := h38; try simp only [zz1, zz2, zz3, zz4, zz5, zz6, zz7, zz8, zz9, zza, zzb] at h38
        refine wp_skip ?_
        refine hK36 _ _ ?_; clear hK36
        refine wp_seq_k (fun K40 hK39 => ?_)
        refine wp_block ?_
        refine wp_seq_k (fun K hK => ?_); refine wp_region_lit ?_
        refine o_move HE rfl rfl ?_; clear HE; intro a HE
        refine o_ixV HE rfl rfl rfl T.r86 Tryd.underlying86 (by decide) rfl (.inl ⟨T.s9, rfl⟩) ?_; clear HE; intro a HE
        refine o_assign HE rfl rfl ?_; clear HE; intro a HE
        refine o_assign HE rfl rfl ?_; clear HE; intro a HE
        refine hK _ _ ?_; clear hK K
        refine wp_seq_k (fun K hK => ?_); refine wp_region_lit ?_
        refine o_move HE rfl rfl ?_; clear HE; intro a HE
        refine o_move HE rfl rfl ?_; clear HE; intro a HE
        refine o_eqS HE rfl rfl rfl ?_; clear HE; intro a HE
        refine hK _ _ ?_; clear hK K
        refine cond HE rfl (fun h43 => ?_) (fun h43 => ?_)
        ·have h43r := h43; try simp only [zz1, zz2, zz3, zz4, zz5, zz6, zz7, zz8, zz9, zza, zzb] at h43
         refine wp_seq_k (fun K hK => ?_); refine wp_region_lit ?_
         refine o_move HE rfl rfl ?_; clear HE; intro a HE
         refine o_assign HE rfl rfl ?_; clear HE; intro a HE
         refine o_assign HE rfl rfl ?_; clear HE; intro a HE
         refine hK _ _ ?_; clear hK K
         refine wp_ret ?_
         show Q .ret _ _
         refine ret hQ HE rfl (HE.res rfl (HE.res rfl .nil)) ⟨_, _, HS.stop (List.nil_sublist _), rfl, ?_⟩
         have hp : wayS s = (3, true) := by
          unfold wayS
          rw [if_neg (by simpa using h13)]
          rw [if_neg (by simpa using h23)]
          rw [if_neg (by simpa using h33)]
          rw [if_pos (by simpa using h43)]
         show _ = _
         rw [hp]
         rfl
        ·have h43r := h43; try simp only [zz1, zz2, zz3, zz4, zz5, zz6, zz7, zz8, zz9, zza, zzb] at h43
         refine wp_skip ?_
         refine hK39 _ _ ?_; clear hK39
         refine wp_region_lit ?_
         refine o_add HE rfl rfl rfl (by omega) ?_; clear HE; intro a HE
         refine o_move HE rfl rfl ?_; clear HE; intro a HE
         show Code.rounds _ _ _ _ _ _
         replace HE := HE.cut (L' := [(0, str s), (6, .agg #[str [107, 101, 101, 112], str [111, 114, 100, 105, 110, 97, 108], str [107, 101, 121, 101, 100], str [114, 97, 110, 107], str [100, 114, 111, 112]]), (7, .int .i64 4)]) ⟨rfl, rfl, rfl, trivial⟩
         rw [rounds_succ]
         refine wp_seq_k (fun K hK => ?_); refine wp_region_lit ?_
         refine o_lss HE rfl rfl rfl ?_; clear HE; intro a HE
         refine hK _ _ ?_; clear hK K
         refine wp_seq_k (fun K47 hK46 => ?_)
         refine cond HE rfl (fun h48 => ?_) (fun h48 => ?_)
         ·have h48r := h48; try simp only [zz1, zz2, zz3, zz4, zz5, zz6, zz7, zz8, zz9, zza, zzb] at h48
          refine wp_skip ?_
          refine hK46 _ _ ?_; clear hK46
          refine wp_seq_k (fun K50 hK49 => ?_)
          refine wp_block ?_
          refine wp_seq_k (fun K hK => ?_); refine wp_region_lit ?_
          refine o_move HE rfl rfl ?_; clear HE; intro a HE
          refine o_ixV HE rfl rfl rfl T.r86 Tryd.underlying86 (by decide) rfl (.inl ⟨T.s9, rfl⟩) ?_; clear HE; intro a HE
          refine o_assign HE rfl rfl ?_; clear HE; intro a HE
          refine o_assign HE rfl rfl ?_; clear HE; intro a HE
          refine hK _ _ ?_; clear hK K
          refine wp_seq_k (fun K hK => ?_); refine wp_region_lit ?_
          refine o_move HE rfl rfl ?_; clear HE; intro a HE
          refine o_move HE rfl rfl ?_; clear HE; intro a HE
          refine o_eqS HE rfl rfl rfl ?_; clear HE; intro a HE
          refine hK _ _ ?_; clear hK K
          refine cond HE rfl (fun h53 => ?_) (fun h53 => ?_)
          ·have h53r := h53; try simp only [zz1, zz2, zz3, zz4, zz5, zz6, zz7, zz8, zz9, zza, zzb] at h53
           refine wp_seq_k (fun K hK => ?_); refine wp_region_lit ?_
           refine o_move HE rfl rfl ?_; clear HE; intro a HE
           refine o_assign HE rfl rfl ?_; clear HE; intro a HE
           refine o_assign HE rfl rfl ?_; clear HE; intro a HE
           refine hK _ _ ?_; clear hK K
           refine wp_ret ?_
           show Q .ret _ _
           refine ret hQ HE rfl (HE.res rfl (HE.res rfl .nil)) ⟨_, _, HS.stop (List.nil_sublist _), rfl, ?_⟩
           have hp : wayS s = (4, true) := by
            unfold wayS
            rw [if_neg (by simpa using h13)]
            rw [if_neg (by simpa using h23)]
            rw [if_neg (by simpa using h33)]
            rw [if_neg (by simpa using h43)]
            rw [if_pos (by simpa using h53)]
           show _ = _
           rw [hp]
           rfl
          ·have h53r := h53; try simp only [zz1, zz2, zz3, zz4, zz5, zz6, zz7, zz8, zz9, zza, zzb] at h53
           refine wp_skip ?_
           refine hK49 _ _ ?_; clear hK49
           refine wp_region_lit ?_
           refine o_add HE rfl rfl rfl (by omega) ?_; clear HE; intro a HE
           refine o_move HE rfl rfl ?_; clear HE; intro a HE
           show Code.rounds _ _ _ _ _ _
           replace HE := HE.cut (L' := [(0, str s), (6, .agg #[str [107, 101, 101, 112], str [111, 114, 100, 105, 110, 97, 108], str [107, 101, 121, 101, 100], str [114, 97, 110, 107], str [100, 114, 111, 112]]), (7, .int .i64 5)]) ⟨rfl, rfl, rfl, trivial⟩
           rw [rounds_succ]
           refine wp_seq_k (fun K hK => ?_); refine wp_region_lit ?_
           refine o_lss HE rfl rfl rfl ?_; clear HE; intro a HE
           refine hK _ _ ?_; clear hK K
           refine wp_seq_k (fun K57 hK56 => ?_)
           refine cond HE rfl (fun h58 => ?_) (fun h58 => ?_)
           ·exact absurd h58 (by decide)
           ·have h58r := h58; try simp only [zz1, zz2, zz3, zz4, zz5, zz6, zz7, zz8, zz9, zza, zzb] at h58
            refine wp_exit ?_
            refine hK2 _ _ ?_; clear hK2
            refine wp_seq_k (fun K hK => ?_); refine wp_region_lit ?_
            refine o_assign HE rfl rfl ?_; clear HE; intro a HE
            refine o_assign HE rfl rfl ?_; clear HE; intro a HE
            refine hK _ _ ?_; clear hK K
            refine wp_ret ?_
            show Q .ret _ _
            refine ret hQ HE rfl (HE.res rfl (HE.res rfl .nil)) ⟨_, _, HS.stop (List.nil_sublist _), rfl, ?_⟩
            have hp : wayS s = (0, false) := by
             unfold wayS
             rw [if_neg (by simpa using h13)]
             rw [if_neg (by simpa using h23)]
             rw [if_neg (by simpa using h33)]
             rw [if_neg (by simpa using h43)]
             rw [if_neg (by simpa using h53)]
            show _ = _
            rw [hp]
            rfl
         ·exact absurd h48 (by decide)
       ·exact absurd h38 (by decide)
     ·exact absurd h28 (by decide)
   ·exact absurd h18 (by decide)
 ·exact absurd h8 (by decide)

/-! `incognito/incognitoref25.name` -/
set_option maxRecDepth 100000 in
set_option maxHeartbeats 4000000 in
theorem c_name25 (d : Int) (w0 : World) (G : Heap) (hG : Sub G w0) :
  Calls Tryd.prog 67 #[.int .i64 d] w0 (Ret w0 G (fun v _ => v = str (nameS d))) := by
 refine enter Tryd.func67 rfl Tryd.ntmps67 rfl ?_
 intro Q hQ a HE
 have HS := St.start0 hG
 refine wp_seq_k (fun K hK => ?_); refine wp_region_lit ?_
 refine o_assign HE rfl rfl ?_; clear HE; intro a HE
 refine hK _ _ ?_; clear hK K
 refine wp_seq_k (fun K3 hK2 => ?_)
 refine wp_seq_k (fun K hK => ?_); refine wp_region_lit ?_
 refine o_move HE rfl rfl ?_; clear HE; intro a HE
 refine hK _ _ ?_; clear hK K
 refine wp_block ?_
 refine wp_seq_k (fun K hK => ?_); refine wp_region_lit ?_
 refine o_eqI HE rfl rfl rfl ?_; clear HE; intro a HE
 refine o_assign HE rfl rfl ?_; clear HE; intro a HE
 refine hK _ _ ?_; clear hK K
 refine cond HE rfl (fun h6 => ?_) (fun h6 => ?_)
 ·have h6r := h6; try simp only [zz1, zz2, zz3, zz4, zz5, zz6, zz7, zz8, zz9, zza, zzb] at h6
  refine wp_seq_k (fun K hK => ?_); refine wp_region_lit ?_
  refine o_assign HE rfl rfl ?_; clear HE; intro a HE
  refine hK _ _ ?_; clear hK K
  refine wp_ret ?_
  show Q .ret _ _
  refine ret hQ HE rfl (HE.res rfl .nil) ⟨_, _, HS.stop (List.nil_sublist _), rfl, ?_⟩
  have hp : nameS d = [99, 108, 105, 101, 110, 116] := by
   unfold nameS
   rw [if_pos (by simpa using h6)]
  show _ = _
  rw [hp]
  rfl
 ·have h6r := h6; try simp only [zz1, zz2, zz3, zz4, zz5, zz6, zz7, zz8, zz9, zza, zzb] at h6
  refine wp_seq_k (fun K hK => ?_); refine wp_region_lit ?_
  refine o_eqI HE rfl rfl rfl ?_; clear HE; intro a HE
  refine o_assign HE rfl rfl ?_; clear HE; intro a HE
  refine hK _ _ ?_; clear hK K
  refine cond HE rfl (fun h9 => ?_) (fun h9 => ?_)
  ·have h9r := h9; try simp only [zz1, zz2, zz3, zz4, zz5, zz6, zz7, zz8, zz9, zza, zzb] at h9
   refine wp_seq_k (fun K hK => ?_); refine wp_region_lit ?_
   refine o_assign HE rfl rfl ?_; clear HE; intro a HE
   refine hK _ _ ?_; clear hK K
   refine wp_ret ?_
   show Q .ret _ _
   refine ret hQ HE rfl (HE.res rfl .nil) ⟨_, _, HS.stop (List.nil_sublist _), rfl, ?_⟩
   have hp : nameS d = [111, 98, 106, 101, 99, 116] := by
    unfold nameS
    rw [if_neg (by simpa using h6)]
    rw [if_pos (by simpa using h9)]
   show _ = _
   rw [hp]
   rfl
  ·have h9r := h9; try simp only [zz1, zz2, zz3, zz4, zz5, zz6, zz7, zz8, zz9, zza, zzb] at h9
   refine wp_seq_k (fun K hK => ?_); refine wp_region_lit ?_
   refine o_eqI HE rfl rfl rfl ?_; clear HE; intro a HE
   refine o_assign HE rfl rfl ?_; clear HE; intro a HE
   refine hK _ _ ?_; clear hK K
   refine cond HE rfl (fun h12 => ?_) (fun h12 => ?_)
   ·have h12r := h12; try simp only [zz1, zz2, zz3, zz4, zz5, zz6, zz7, zz8, zz9, zza, zzb] at h12
    refine wp_seq_k (fun K hK => ?_); refine wp_region_lit ?_
    refine o_assign HE rfl rfl ?_; clear HE; intro a HE
    refine hK _ _ ?_; clear hK K
    refine wp_ret ?_
    show Q .ret _ _
    refine ret hQ HE rfl (HE.res rfl .nil) ⟨_, _, HS.stop (List.nil_sublist _), rfl, ?_⟩
    have hp : nameS d = [118, 97, 108, 117, 101] := by
     unfold nameS
     rw [if_neg (by simpa using h6)]
     rw [if_neg (by simpa using h9)]
     rw [if_pos (by simpa using h12)]
    show _ = _
    rw [hp]
    rfl
   ·have h12r := h12; try simp only [zz1, zz2, zz3, zz4, zz5, zz6, zz7, zz8, zz9, zza, zzb] at h12
    refine wp_seq_k (fun K hK => ?_); refine wp_region_lit ?_
    refine o_eqI HE rfl rfl rfl ?_; clear HE; intro a HE
    refine o_assign HE rfl rfl ?_; clear HE; intro a HE
    refine hK _ _ ?_; clear hK K
    refine cond HE rfl (fun h15 => ?_) (fun h15 => ?_)
    ·have h15r := h15; try simp only [zz1, zz2, zz3, zz4, zz5, zz6, zz7, zz8, zz9, zza, zzb] at h15
     refine wp_seq_k (fun K hK => ?_); refine wp_region_lit ?_
     refine o_assign HE rfl rfl ?_; clear HE; intro a HE
     refine hK _ _ ?_; clear hK K
     refine wp_ret ?_
     show Q .ret _ _
     refine ret hQ HE rfl (HE.res rfl .nil) ⟨_, _, HS.stop (List.nil_sublist _), rfl, ?_⟩
     have hp : nameS d = [102, 105, 101, 108, 100] := by
      unfold nameS
      rw [if_neg (by simpa using h6)]
      rw [if_neg (by simpa using h9)]
      rw [if_neg (by simpa using h12)]
      rw [if_pos (by simpa using h15)]
     show _ = _
     rw [hp]
     rfl
    ·have h15r := h15; try simp only [zz1, zz2, zz3, zz4, zz5, zz6, zz7, zz8, zz9, zza, zzb] at h15
     refine wp_skip ?_
     refine hK2 _ _ ?_; clear hK2
     refine wp_seq_k (fun K hK => ?_); refine wp_region_lit ?_
     refine o_assign HE rfl rfl ?_; clear HE; intro a HE
     refine hK _ _ ?_; clear hK K
     refine wp_ret ?_
     show Q .ret _ _
     refine ret hQ HE rfl (HE.res rfl .nil) ⟨_, _, HS.stop (List.nil_sublist _), rfl, ?_⟩
     have hp : nameS d = [111, 114, 100, 101, 114] := by
      unfold nameS
      rw [if_neg (by simpa using h6)]
      rw [if_neg (by simpa using h9)]
      rw [if_neg (by simpa using h12)]
      rw [if_neg (by simpa using h15)]
     show _ = _
     rw [hp]
     rfl

/-! `incognito/incognitoref25.said` -/
set_option maxRecDepth 100000 in
set_option maxHeartbeats 4000000 in
theorem c_said (d : Int) (r : Rul) (w0 : World) (G : Heap) (hG : Sub G w0) (hsz : I64 r.size):
  Calls Tryd.prog 35 #[.int .i64 d, .agg #[.int .i64 r.way, .int .i64 r.size]] w0 (Ret w0 G (fun v _ => v = str (saidS d r))) := by
 refine enter Tryd.func35 rfl Tryd.ntmps35 rfl ?_
 intro Q hQ a HE
 have HS := St.start0 hG
 refine wp_seq_k (fun K hK => ?_); refine wp_region_lit ?_
 refine o_boxL [(0, _), (1, _)] HE rfl HS rfl ⟨rfl, rfl, trivial⟩ ?_; clear HE HS; intro B3 w a HS HE
 refine o_assign HE rfl rfl ?_; clear HE; intro a HE
 refine hK _ _ ?_; clear hK K
 refine wp_seq_k (fun K3 hK2 => ?_)
 refine wp_seq_k (fun K hK => ?_); refine wp_region_lit ?_
 refine o_fld HE rfl rfl T.f23_0 ?_; clear HE; intro a HE
 refine o_ld HE rfl HS rfl T.s3 (.here .here) rfl ?_; clear HE; intro a HE
 refine hK _ _ ?_; clear hK K
 refine wp_block ?_
 refine wp_seq_k (fun K hK => ?_); refine wp_region_lit ?_
 refine o_eqI HE rfl rfl rfl ?_; clear HE; intro a HE
 refine o_assign HE rfl rfl ?_; clear HE; intro a HE
 refine hK _ _ ?_; clear hK K
 refine cond HE rfl (fun h6 => ?_) (fun h6 => ?_)
 ·have h6r := h6; try simp only [zz1, zz2, zz3, zz4, zz5, zz6, zz7, zz8, zz9, zza, zzb] at h6
  refine wp_seq_k (fun K hK => ?_); refine wp_region_lit ?_
  refine o_move HE rfl rfl ?_; clear HE; intro a HE
  refine o_callP HE rfl HS rfl rfl T.g67 (c_name25 d _ _ HS.sub) ?_
  clear HE HS; rintro _ w a HS rfl HE
  refine o_cat HE rfl rfl rfl (by (have := nameS_len d; simp; omega)) ?_; clear HE; intro a HE
  refine o_assign HE rfl rfl ?_; clear HE; intro a HE
  refine hK _ _ ?_; clear hK K
  refine wp_ret ?_
  show Q .ret _ _
  refine ret hQ HE rfl (HE.res rfl .nil) ⟨_, _, HS.stop (List.nil_sublist _), rfl, ?_⟩
  have hp : saidS d r = (nameS d) ++ [32, 107, 101, 101, 112] := by
   unfold saidS
   rw [if_pos (by simpa using h6)]
  show _ = _
  rw [hp]
  rfl
 ·have h6r := h6; try simp only [zz1, zz2, zz3, zz4, zz5, zz6, zz7, zz8, zz9, zza, zzb] at h6
  refine wp_seq_k (fun K hK => ?_); refine wp_region_lit ?_
  refine o_eqI HE rfl rfl rfl ?_; clear HE; intro a HE
  refine o_assign HE rfl rfl ?_; clear HE; intro a HE
  refine hK _ _ ?_; clear hK K
  refine cond HE rfl (fun h9 => ?_) (fun h9 => ?_)
  ·have h9r := h9; try simp only [zz1, zz2, zz3, zz4, zz5, zz6, zz7, zz8, zz9, zza, zzb] at h9
   refine wp_seq_k (fun K hK => ?_); refine wp_region_lit ?_
   refine o_move HE rfl rfl ?_; clear HE; intro a HE
   refine o_callP HE rfl HS rfl rfl T.g67 (c_name25 d _ _ HS.sub) ?_
   clear HE HS; rintro _ w a HS rfl HE
   refine o_cat HE rfl rfl rfl (by (have := nameS_len d; simp; omega)) ?_; clear HE; intro a HE
   refine o_assign HE rfl rfl ?_; clear HE; intro a HE
   refine hK _ _ ?_; clear hK K
   refine wp_ret ?_
   show Q .ret _ _
   refine ret hQ HE rfl (HE.res rfl .nil) ⟨_, _, HS.stop (List.nil_sublist _), rfl, ?_⟩
   have hp : saidS d r = (nameS d) ++ [32, 111, 114, 100, 105, 110, 97, 108] := by
    unfold saidS
    rw [if_neg (by simpa using h6)]
    rw [if_pos (by simpa using h9)]
   show _ = _
   rw [hp]
   rfl
  ·have h9r := h9; try simp only [zz1, zz2, zz3, zz4, zz5, zz6, zz7, zz8, zz9, zza, zzb] at h9
   refine wp_seq_k (fun K hK => ?_); refine wp_region_lit ?_
   refine o_eqI HE rfl rfl rfl ?_; clear HE; intro a HE
   refine o_assign HE rfl rfl ?_; clear HE; intro a HE
   refine hK _ _ ?_; clear hK K
   refine cond HE rfl (fun h12 => ?_) (fun h12 => ?_)
   ·have h12r := h12; try simp only [zz1, zz2, zz3, zz4, zz5, zz6, zz7, zz8, zz9, zza, zzb] at h12
    refine wp_seq_k (fun K14 hK13 => ?_)
    replace HE := HE.cut (L' := [(0, .int .i64 d), (1, .agg #[.int .i64 r.way, .int .i64 r.size]), (3, .pointer (some ⟨B3, 0, none⟩)), (5, .pointer (some ⟨B3, 0, none⟩)), (6, .int .i64 r.way), (7, .bool (decide (r.way = 0))), (8, .bool (decide (r.way = 0))), (12, .bool (decide (r.way = 1))), (13, .bool (decide (r.way = 1))), (17, .bool (decide (r.way = 2))), (18, .bool (decide (r.way = 2)))]) ⟨rfl, rfl, rfl, rfl, rfl, rfl, rfl, rfl, rfl, rfl, rfl, trivial⟩
    refine drawnP [fun v => v = .int .i64 d, fun v => v = str (nameS d), fun v => v = str ((nameS d) ++ [32, 107, 101, 121, 101, 100, 32]), fun v => v = .pointer (some ⟨B3, 1, none⟩), fun v => v = .int .i64 r.size, fun v => v = str (Lib.itoa r.size), fun v => v = str (((nameS d) ++ [32, 107, 101, 121, 101, 100, 32]) ++ (Lib.itoa r.size)), fun v => v = str (((nameS d) ++ [32, 107, 101, 121, 101, 100, 32]) ++ (Lib.itoa r.size))] T.mix rfl HE HS rfl ⟨?_, ?_, ?_, ?_, ?_, ?_, ?_, ?_, trivial⟩ ?_
    ·intro a w G1 hl HS HE hp
     refine o_move HE rfl rfl ?_; clear HE; intro a HE
     exact ⟨_, _, HS, rfl, HE.get _ _ rfl, HE.defers, rfl⟩
    ·intro a w G1 hl HS HE hp
     obtain ⟨_, e0, rfl⟩ := hp 0 19 _ rfl rfl rfl; replace HE := HE.add e0
     refine o_callP HE rfl HS rfl rfl T.g67 (c_name25 d _ _ HS.sub) ?_
     clear HE HS; rintro _ w a HS rfl HE
     exact ⟨_, _, HS, rfl, HE.get _ _ rfl, HE.defers, rfl⟩
    ·intro a w G1 hl HS HE hp
     obtain ⟨_, e1, rfl⟩ := hp 1 20 _ rfl rfl rfl; replace HE := HE.add e1
     refine o_cat HE rfl rfl rfl (by (have := nameS_len d; simp; omega)) ?_; clear HE; intro a HE
     exact ⟨_, _, HS, rfl, HE.get _ _ rfl, HE.defers, rfl⟩
    ·intro a w G1 hl HS HE hp
     refine o_fld HE rfl rfl T.f23_1 ?_; clear HE; intro a HE
     exact ⟨_, _, HS, rfl, HE.get _ _ rfl, HE.defers, rfl⟩
    ·intro a w G1 hl HS HE hp
     obtain ⟨_, e3, rfl⟩ := hp 3 22 _ rfl rfl rfl; replace HE := HE.add e3
     refine o_ld HE rfl HS rfl T.s3 (.here .here) rfl ?_; clear HE; intro a HE
     exact ⟨_, _, HS, rfl, HE.get _ _ rfl, HE.defers, rfl⟩
    ·intro a w G1 hl HS HE hp
     obtain ⟨_, e4, rfl⟩ := hp 4 23 _ rfl rfl rfl; replace HE := HE.add e4
     refine o_callP HE rfl HS rfl rfl T.g68 (c_Print6 r.size _ _ HS.sub (by first | assumption | exact hv.n | omega)) ?_
     clear HE HS; rintro _ w a HS rfl HE
     exact ⟨_, _, HS, rfl, HE.get _ _ rfl, HE.defers, rfl⟩
    ·intro a w G1 hl HS HE hp
     obtain ⟨_, e2, rfl⟩ := hp 2 21 _ rfl rfl rfl; replace HE := HE.add e2
     obtain ⟨_, e5, rfl⟩ := hp 5 24 _ rfl rfl rfl; replace HE := HE.add e5
     refine o_cat HE rfl rfl rfl (by (have := nameS_len d; have := Lib.itoa_length_le r.size hsz.1 hsz.2; simp; omega)) ?_; clear HE; intro a HE
     exact ⟨_, _, HS, rfl, HE.get _ _ rfl, HE.defers, rfl⟩
    ·intro a w G1 hl HS HE hp
     obtain ⟨_, e6, rfl⟩ := hp 6 25 _ rfl rfl rfl; replace HE := HE.add e6
     refine o_assign HE rfl rfl ?_; clear HE; intro a HE
     exact ⟨_, _, HS, rfl, HE.get _ _ rfl, HE.defers, rfl⟩
    clear HE HS; intro a w HS HE hp
    obtain ⟨_, e7, rfl⟩ := hp 7 4 _ rfl rfl; replace HE := HE.add e7
    clear hp
    refine hK13 _ _ ?_; clear hK13
    refine wp_ret ?_
    show Q .ret _ _
    refine ret hQ HE rfl (HE.res rfl .nil) ⟨_, _, HS.stop (List.nil_sublist _), rfl, ?_⟩
    have hp : saidS d r = ((nameS d) ++ [32, 107, 101, 121, 101, 100, 32]) ++ (Lib.itoa r.size) := by
     unfold saidS
     rw [if_neg (by simpa using h6)]
     rw [if_neg (by simpa using h9)]
     rw [if_pos (by simpa using h12)]
    show _ = _
    rw [hp]
    rfl
   ·have h12r := h12; try simp only [zz1, zz2, zz3, zz4, zz5, zz6, zz7, zz8, zz9, zza, zzb] at h12
    refine wp_skip ?_
    refine hK2 _ _ ?_; clear hK2
    refine wp_seq_k (fun K hK => ?_); refine wp_region_lit ?_
    refine o_move HE rfl rfl ?_; clear HE; intro a HE
    refine o_callP HE rfl HS rfl rfl T.g67 (c_name25 d _ _ HS.sub) ?_
    clear HE HS; rintro _ w a HS rfl HE
    refine o_cat HE rfl rfl rfl (by (have := nameS_len d; simp; omega)) ?_; clear HE; intro a HE
    refine o_assign HE rfl rfl ?_; clear HE; intro a HE
    refine hK _ _ ?_; clear hK K
    refine wp_ret ?_
    show Q .ret _ _
    refine ret hQ HE rfl (HE.res rfl .nil) ⟨_, _, HS.stop (List.nil_sublist _), rfl, ?_⟩
    have hp : saidS d r = (nameS d) ++ [32, 114, 97, 110, 107] := by
     unfold saidS
     rw [if_neg (by simpa using h6)]
     rw [if_neg (by simpa using h9)]
     rw [if_neg (by simpa using h12)]
    show _ = _
    rw [hp]
    rfl

/-! `incognito/policy.kinds$1` -/
set_option maxRecDepth 100000 in
set_option maxHeartbeats 4000000 in
theorem c_one25 (l : List Bs) (A : Option Addr) (c : Nat) (may : Int) (w0 : World) (G : Heap) (hG : Sub G w0) (hR : Rd Knd.s G A l) (hl : l.length ≤ 4294967281) (hgw : CellsAt G 1 0 [str [107, 101, 101, 112], str [111, 114, 100, 105, 110, 97, 108], str [107, 101, 121, 101, 100], str [114, 97, 110, 107], str [100, 114, 111, 112]]):
  Calls Tryd.prog 71 #[.slice A l.length c, .int .i64 may] w0 (Ret w0 G (fun v _ => v = .tuple #[.int .i64 (oneS l may).1, .bool (oneS l may).2])) := by
 refine enter Tryd.func71 rfl Tryd.ntmps71 rfl ?_
 intro Q hQ a HE
 have HS := St.start0 hG
 refine wp_seq_k (fun K hK => ?_); refine wp_region_lit ?_
 refine o_assign HE rfl rfl ?_; clear HE; intro a HE
 refine o_assign HE rfl rfl ?_; clear HE; intro a HE
 refine hK _ _ ?_; clear hK K
 refine wp_seq_k (fun K3 hK2 => ?_)
 refine wp_seq_k (fun K hK => ?_); refine wp_region_lit ?_
 refine o_move HE rfl rfl ?_; clear HE; intro a HE
 refine o_lenL HE rfl rfl Tryd.underlying29 ?_; clear HE; intro a HE
 refine o_neI HE rfl rfl rfl ?_; clear HE; intro a HE
 refine hK _ _ ?_; clear hK K
 refine cond HE rfl (fun h5 => ?_) (fun h5 => ?_)
 ·have h5r := h5; try simp only [zz1, zz2, zz3, zz4, zz5, zz6, zz7, zz8, zz9, zza, zzb] at h5
  refine wp_seq_k (fun K hK => ?_); refine wp_region_lit ?_
  refine o_assign HE rfl rfl ?_; clear HE; intro a HE
  refine o_assign HE rfl rfl ?_; clear HE; intro a HE
  refine hK _ _ ?_; clear hK K
  refine wp_ret ?_
  show Q .ret _ _
  refine ret hQ HE rfl (HE.res rfl (HE.res rfl .nil)) ⟨_, _, HS.stop (List.nil_sublist _), rfl, ?_⟩
  have e : oneS l may = (0, false) := by
   unfold oneS
   rw [if_neg (by omega)]
  show _ = _
  rw [e]
  rfl
 ·have h5r := h5; try simp only [zz1, zz2, zz3, zz4, zz5, zz6, zz7, zz8, zz9, zza, zzb] at h5
  refine wp_skip ?_
  refine hK2 _ _ ?_; clear hK2
  refine wp_seq_k (fun K hK => ?_); refine wp_region_lit ?_
  refine o_move HE rfl rfl ?_; clear HE; intro a HE
  have hi7 : (0 : Int).toNat < l.length := by omega
  obtain ⟨eb7, eo7, hA7, el7⟩ := Rd.at hR (List.getElem?_eq_getElem hi7); cases hA7
  obtain ⟨x7, ex7⟩ : ∃ x, l[(0 : Int).toNat] = x := ⟨_, rfl⟩; rw [ex7] at el7
  have el7 := kof_open (enc := fun l => str l) el7
  refine o_ixL HE rfl rfl rfl T.l29 ⟨by omega, by omega⟩ ?_; clear HE; intro a HE
  refine o_ldI HE rfl HS rfl T.s9 el7 (j := 0) rfl rfl ?_; clear HE; intro a HE
  refine o_callP HE rfl HS rfl rfl T.g72 (c_way x7 _ _ HS.sub hgw) ?_
  clear HE HS; rintro _ w a HS rfl HE
  refine o_move HE rfl rfl ?_; clear HE; intro a HE
  refine o_extract HE rfl rfl rfl ?_; clear HE; intro a HE
  refine o_extract HE rfl rfl rfl ?_; clear HE; intro a HE
  refine o_assign HE rfl rfl ?_; clear HE; intro a HE
  refine o_assign HE rfl rfl ?_; clear HE; intro a HE
  refine hK _ _ ?_; clear hK K
  refine wp_seq_k (fun K hK => ?_); refine wp_region_lit ?_
  refine o_move HE rfl rfl ?_; clear HE; intro a HE
  refine o_move HE rfl rfl ?_; clear HE; intro a HE
  refine o_move HE rfl rfl ?_; clear HE; intro a HE
  refine cutL 8 (fun a' w' => w = w' ∧ Env a' 29 [] [(28, .bool (((wayS x7).2) && ((decide (((wayS x7).1) = 0)) || (decide (((wayS x7).1) = may))))), (0, .slice (some ⟨eb7, eo7, none⟩) l.length c), (4, .int .i64 0), (5, .bool false), (8, .slice (some ⟨eb7, eo7, none⟩) l.length c), (9, .int .i64 (l.length : Int)), (10, .bool (!decide ((l.length : Int) = 1))), (11, .tuple #[.int .i64 ((wayS x7).1), .bool ((wayS x7).2)]), (12, .slice (some ⟨eb7, eo7, none⟩) l.length c), (13, .pointer (some ⟨eb7, eo7 + (0 : Int).toNat * 1, none⟩)), (14, str x7), (15, .tuple #[.int .i64 ((wayS x7).1), .bool ((wayS x7).2)]), (16, .int .i64 ((wayS x7).1)), (17, .bool ((wayS x7).2)), (18, .int .i64 ((wayS x7).1))]) ?_ ?_
  ·refine (Bool.eq_false_or_eq_true ((wayS x7).2)).elim (fun hb9 => ?_) (fun hb9 => ?_)
   ·skip
    have hk10 := hb9; try simp only [zz1, zz2, zz3, zz4, zz5, zz7, zz8, zz9, zza, zzb] at hk10
    refine op_on HE rfl rfl hb9 ?_
    refine o_move HE rfl rfl ?_; clear HE; intro a HE
    refine op_on HE rfl rfl hb9 ?_
    refine o_eqI HE rfl rfl rfl ?_; clear HE; intro a HE
    refine op_on HE rfl rfl hb9 ?_
    refine o_move HE rfl rfl ?_; clear HE; intro a HE
    refine cutL 4 (fun a' w' => w = w' ∧ Env a' 29 [] [(27, .bool ((decide (((wayS x7).1) = 0)) || (decide (((wayS x7).1) = may)))), (0, .slice (some ⟨eb7, eo7, none⟩) l.length c), (4, .int .i64 0), (5, .bool false), (8, .slice (some ⟨eb7, eo7, none⟩) l.length c), (9, .int .i64 (l.length : Int)), (10, .bool (!decide ((l.length : Int) = 1))), (11, .tuple #[.int .i64 ((wayS x7).1), .bool ((wayS x7).2)]), (12, .slice (some ⟨eb7, eo7, none⟩) l.length c), (13, .pointer (some ⟨eb7, eo7 + (0 : Int).toNat * 1, none⟩)), (14, str x7), (15, .tuple #[.int .i64 ((wayS x7).1), .bool ((wayS x7).2)]), (16, .int .i64 ((wayS x7).1)), (17, .bool ((wayS x7).2)), (18, .int .i64 ((wayS x7).1)), (20, .bool ((wayS x7).2))]) ?_ ?_
    ·refine (Bool.eq_false_or_eq_true (decide (((wayS x7).1) = 0))).elim (fun hb11 => ?_) (fun hb11 => ?_)
     ·skip
      have hk12 := hb11; try simp only [zz1, zz2, zz3, zz4, zz5, zz7, zz8, zz9, zza, zzb] at hk12
      refine g_off HE rfl rfl rfl hb11 ?_; clear HE; intro a HE
      refine g_off HE rfl rfl rfl hb11 ?_; clear HE; intro a HE
      refine g_off HE rfl rfl rfl hb11 ?_; clear HE; intro a HE
      refine op_on HE rfl rfl hb9 ?_
      refine o_pick_t HE rfl rfl hb11 rfl ?_; clear HE; intro a HE
      exact ⟨rfl, HE.cut ⟨by rw [hb11]; rfl, rfl, rfl, rfl, rfl, rfl, rfl, rfl, rfl, rfl, rfl, rfl, rfl, rfl, rfl, rfl, trivial⟩⟩
     ·skip
      have hk13 := hb11; try simp only [zz1, zz2, zz3, zz4, zz5, zz7, zz8, zz9, zza, zzb] at hk13
      refine op_on HE rfl rfl hb11 ?_
      refine o_move HE rfl rfl ?_; clear HE; intro a HE
      refine op_on HE rfl rfl hb11 ?_
      refine o_move HE rfl rfl ?_; clear HE; intro a HE
      refine op_on HE rfl rfl hb11 ?_
      refine o_eqI HE rfl rfl rfl ?_; clear HE; intro a HE
      refine op_on HE rfl rfl hb9 ?_
      refine o_pick_f HE rfl rfl hb11 rfl ?_; clear HE; intro a HE
      exact ⟨rfl, HE.cut ⟨by rw [hb11]; rfl, rfl, rfl, rfl, rfl, rfl, rfl, rfl, rfl, rfl, rfl, rfl, rfl, rfl, rfl, rfl, trivial⟩⟩
    clear HE; rintro a _ ⟨rfl, HE⟩
    refine o_pick_t HE rfl rfl hb9 rfl ?_; clear HE; intro a HE
    exact ⟨rfl, HE.cut ⟨by rw [hb9]; rfl, rfl, rfl, rfl, rfl, rfl, rfl, rfl, rfl, rfl, rfl, rfl, rfl, rfl, rfl, trivial⟩⟩
   ·skip
    have hk14 := hb9; try simp only [zz1, zz2, zz3, zz4, zz5, zz7, zz8, zz9, zza, zzb] at hk14
    refine g_off HE rfl rfl rfl hb9 ?_; clear HE; intro a HE
    refine g_off HE rfl rfl rfl hb9 ?_; clear HE; intro a HE
    refine g_off HE rfl rfl rfl hb9 ?_; clear HE; intro a HE
    refine g_offu HE rfl rfl rfl ?_; clear HE; intro a HE
    refine g_offu HE rfl rfl rfl ?_; clear HE; intro a HE
    refine g_offu HE rfl rfl rfl ?_; clear HE; intro a HE
    refine g_off HE rfl rfl rfl hb9 ?_; clear HE; intro a HE
    refine o_pick_f HE rfl rfl hb9 rfl ?_; clear HE; intro a HE
    exact ⟨rfl, HE.cut ⟨by rw [hb9]; rfl, rfl, rfl, rfl, rfl, rfl, rfl, rfl, rfl, rfl, rfl, rfl, rfl, rfl, rfl, trivial⟩⟩
  clear HE; rintro a _ ⟨rfl, HE⟩
  refine o_assign HE rfl rfl ?_; clear HE; intro a HE
  refine o_assign HE rfl rfl ?_; clear HE; intro a HE
  refine hK _ _ ?_; clear hK K
  refine wp_ret ?_
  show Q .ret _ _
  refine ret hQ HE rfl (HE.res rfl (HE.res rfl .nil)) ⟨_, _, HS.stop (List.nil_sublist _), rfl, ?_⟩
  have e0 : w0S l = wayS x7 := by unfold w0S; rw [get0 ex7]
  have e : oneS l may = ((wayS x7).1, ((wayS x7).2) && ((decide (((wayS x7).1) = 0)) || (decide (((wayS x7).1) = may)))) := by
   unfold oneS
   rw [if_pos (by omega), e0]
  show _ = _
  rw [e]
  rfl

/-! `incognito/policy.rule$1` -/
set_option maxRecDepth 100000 in
set_option maxHeartbeats 4000000 in
theorem c_rule0 (P : Pol) (l : List Bs) (A : Option Addr) (c : Nat) (bp : Nat) (bd : Nat) {W0 : World} {H0 : Heap} {L0 : List Nat} {M0 : List Chunk} (w0 : World) (G : Heap) (hS0 : St W0 H0 L0 G w0 ([(bp, Cells 26 [(0, .int .i64 P.r0.way), (1, .int .i64 P.r0.size), (2, .int .i64 P.r1.way), (3, .int .i64 P.r1.size), (4, .int .i64 P.r2.way), (5, .int .i64 P.r2.size), (6, .int .i64 P.r3.way), (7, .int .i64 P.r3.size), (8, .int .i64 P.r4.way), (9, .int .i64 P.r4.size), (10, .int .i64 P.time), (11, .int .i64 P.note), (12, .bool P.loose), (13, .bool P.force)])] :: M0)) (hR : Rd Knd.s G A l) (hc : l.length ≤ c) (hl : l.length ≤ 4294967281) (hls : ∀ x ∈ l, x.length ≤ 4294967280) (hCd : CellsAt G bd 0 [.int .i64 0]) (hgw : CellsAt G 1 0 [str [107, 101, 101, 112], str [111, 114, 100, 105, 110, 97, 108], str [107, 101, 121, 101, 100], str [114, 97, 110, 107], str [100, 114, 111, 112]]):
  Calls Tryd.prog 103 #[.pointer (some ⟨bp, 0, none⟩), .slice A l.length c, .pointer (some ⟨bd, 0, none⟩)] w0 (X.Ends w0 G [bp] (fun v G' C' => v = .bool (ruleS 0 P l).2 ∧ C' = [(bp, Cells 26 (pcE (ruleS 0 P l).1))]) (fun _ _ _ => False)) := by
 refine enter Tryd.func103 rfl Tryd.ntmps103 rfl ?_
 intro Q hQ a HE
 have HS := St.start (C := [(bp, Cells 26 [(0, .int .i64 P.r0.way), (1, .int .i64 P.r0.size), (2, .int .i64 P.r1.way), (3, .int .i64 P.r1.size), (4, .int .i64 P.r2.way), (5, .int .i64 P.r2.size), (6, .int .i64 P.r3.way), (7, .int .i64 P.r3.size), (8, .int .i64 P.r4.way), (9, .int .i64 P.r4.size), (10, .int .i64 P.time), (11, .int .i64 P.note), (12, .bool P.loose), (13, .bool P.force)])]) hS0.sub (fun p hp => hS0.mem p (by simp only [List.flatten_cons, List.mem_append]; exact .inl hp)) (fun p hp => hS0.sep p (by simp only [List.flatten_cons, List.mem_append]; exact .inl hp)) (by simp [X.keys])
 change St w0 G [bp] G w0 _ at HS
 refine wp_seq_k (fun K hK => ?_); refine wp_region_lit ?_
 refine o_assign HE rfl rfl ?_; clear HE; intro a HE
 refine hK _ _ ?_; clear hK K
 refine wp_seq_k (fun K3 hK2 => ?_)
 refine wp_seq_k (fun K hK => ?_); refine wp_region_lit ?_
 refine o_move HE rfl rfl ?_; clear HE; intro a HE
 refine o_lenL HE rfl rfl Tryd.underlying29 ?_; clear HE; intro a HE
 refine o_eqI HE rfl rfl rfl ?_; clear HE; intro a HE
 refine hK _ _ ?_; clear hK K
 refine cond HE rfl (fun h5 => ?_) (fun h5 => ?_)
 ·have h5r := h5; try simp only [zz1, zz2, zz3, zz4, zz5, zz6, zz7, zz8, zz9, zza, zzb] at h5
  refine wp_seq_k (fun K hK => ?_); refine wp_region_lit ?_
  refine o_assign HE rfl rfl ?_; clear HE; intro a HE
  refine hK _ _ ?_; clear hK K
  refine wp_ret ?_
  show Q .ret _ _
  refine ret hQ HE rfl (HE.res rfl .nil) ?_
  have he : ruleS 0 P l = ((⟨⟨P.r0.way, P.r0.size⟩, ⟨P.r1.way, P.r1.size⟩, ⟨P.r2.way, P.r2.size⟩, ⟨P.r3.way, P.r3.size⟩, ⟨P.r4.way, P.r4.size⟩, P.time, P.note, P.loose, P.force⟩ : Pol), false) := by
   unfold ruleS
   rw [if_pos (by omega)]
  exact ⟨_, [(bp, Cells 26 [(0, .int .i64 P.r0.way), (1, .int .i64 P.r0.size), (2, .int .i64 P.r1.way), (3, .int .i64 P.r1.size), (4, .int .i64 P.r2.way), (5, .int .i64 P.r2.size), (6, .int .i64 P.r3.way), (7, .int .i64 P.r3.size), (8, .int .i64 P.r4.way), (9, .int .i64 P.r4.size), (10, .int .i64 P.time), (11, .int .i64 P.note), (12, .bool P.loose), (13, .bool P.force)])], HS.stop (by simp), by rw [he] <;> rfl, by rw [he] <;> rfl⟩
 ·have h5r := h5; try simp only [zz1, zz2, zz3, zz4, zz5, zz6, zz7, zz8, zz9, zza, zzb] at h5
  refine wp_skip ?_
  refine hK2 _ _ ?_; clear hK2
  refine wp_seq_k (fun K hK => ?_); refine wp_region_lit ?_
  refine o_move HE rfl rfl ?_; clear HE; intro a HE
  have hi7 : (0 : Int).toNat < l.length := by omega
  obtain ⟨eb7, eo7, hA7, el7⟩ := Rd.at hR (List.getElem?_eq_getElem hi7); cases hA7
  obtain ⟨x7, ex7⟩ : ∃ x, l[(0 : Int).toNat] = x := ⟨_, rfl⟩; rw [ex7] at el7
  have el7 := kof_open (enc := fun l => str l) el7
  refine o_ixL HE rfl rfl rfl T.l29 ⟨by omega, by omega⟩ ?_; clear HE; intro a HE
  refine o_ldI HE rfl HS rfl T.s9 el7 (j := 0) rfl rfl ?_; clear HE; intro a HE
  refine o_callP HE rfl HS rfl rfl T.g72 (c_way x7 _ _ HS.sub hgw) ?_
  clear HE HS; rintro _ w a HS rfl HE
  refine o_move HE rfl rfl ?_; clear HE; intro a HE
  refine o_extract HE rfl rfl rfl ?_; clear HE; intro a HE
  refine o_extract HE rfl rfl rfl ?_; clear HE; intro a HE
  refine o_assign HE rfl rfl ?_; clear HE; intro a HE
  refine o_assign HE rfl rfl ?_; clear HE; intro a HE
  refine hK _ _ ?_; clear hK K
  refine wp_seq_k (fun K hK => ?_); refine wp_region_lit ?_
  refine o_move HE rfl rfl ?_; clear HE; intro a HE
  refine o_build (cs := #[.int .i64 ((wayS x7).1), .int .i64 0]) HE rfl rfl (by kernel_rfl) ?_; clear HE; intro a HE
  refine o_allocL [(0, _), (1, _)] HE rfl HS T.z23 ⟨rfl, rfl, trivial⟩ ?_; clear HE HS; intro B8 w a HS HE
  refine o_stA HE HS rfl rfl rfl T.a23 (.here .here) rfl ?_; clear HS; intro w HS
  refine hK _ _ ?_; clear hK K
  refine wp_seq_k (fun K11 hK10 => ?_)
  refine wp_seq_k (fun K hK => ?_); refine wp_region_lit ?_
  refine o_move HE rfl rfl ?_; clear HE; intro a HE
  refine o_eqI HE rfl rfl rfl ?_; clear HE; intro a HE
  refine o_move HE rfl rfl ?_; clear HE; intro a HE
  refine cutL 4 (fun a' w' => w = w' ∧ Env a' 63 [] [(29, .bool ((decide (((wayS x7).1) = 2)) && (decide ((l.length : Int) = 2)))), (0, .pointer (some ⟨bp, 0, none⟩)), (1, .slice (some ⟨eb7, eo7, none⟩) l.length c), (2, .pointer (some ⟨bd, 0, none⟩)), (5, .bool false), (6, .int .i64 ((wayS x7).1)), (7, .bool ((wayS x7).2)), (8, .pointer (some ⟨B8, 0, none⟩)), (11, .slice (some ⟨eb7, eo7, none⟩) l.length c), (12, .int .i64 (l.length : Int)), (13, .bool (decide ((l.length : Int) = 0))), (14, .tuple #[.int .i64 ((wayS x7).1), .bool ((wayS x7).2)]), (15, .slice (some ⟨eb7, eo7, none⟩) l.length c), (16, .pointer (some ⟨eb7, eo7 + (0 : Int).toNat * 1, none⟩)), (17, str x7), (18, .tuple #[.int .i64 ((wayS x7).1), .bool ((wayS x7).2)]), (19, .int .i64 ((wayS x7).1)), (20, .bool ((wayS x7).2)), (21, .int .i64 ((wayS x7).1)), (22, .agg #[.int .i64 ((wayS x7).1), .int .i64 0])]) ?_ ?_
  ·refine (Bool.eq_false_or_eq_true (decide (((wayS x7).1) = 2))).elim (fun hb12 => ?_) (fun hb12 => ?_)
   ·skip
    have hk13 := hb12; try simp only [zz1, zz2, zz3, zz4, zz5, zz7, zz8, zz9, zza, zzb] at hk13
    refine op_on HE rfl rfl hb12 ?_
    refine o_move HE rfl rfl ?_; clear HE; intro a HE
    refine op_on HE rfl rfl hb12 ?_
    refine o_lenL HE rfl rfl Tryd.underlying29 ?_; clear HE; intro a HE
    refine op_on HE rfl rfl hb12 ?_
    refine o_eqI HE rfl rfl rfl ?_; clear HE; intro a HE
    refine o_pick_t HE rfl rfl hb12 rfl ?_; clear HE; intro a HE
    exact ⟨rfl, HE.cut ⟨by rw [hb12]; rfl, rfl, rfl, rfl, rfl, rfl, rfl, rfl, rfl, rfl, rfl, rfl, rfl, rfl, rfl, rfl, rfl, rfl, rfl, rfl, trivial⟩⟩
   ·skip
    have hk14 := hb12; try simp only [zz1, zz2, zz3, zz4, zz5, zz7, zz8, zz9, zza, zzb] at hk14
    refine g_off HE rfl rfl rfl hb12 ?_; clear HE; intro a HE
    refine g_off HE rfl rfl rfl hb12 ?_; clear HE; intro a HE
    refine g_off HE rfl rfl rfl hb12 ?_; clear HE; intro a HE
    refine o_pick_f HE rfl rfl hb12 rfl ?_; clear HE; intro a HE
    exact ⟨rfl, HE.cut ⟨by rw [hb12]; rfl, rfl, rfl, rfl, rfl, rfl, rfl, rfl, rfl, rfl, rfl, rfl, rfl, rfl, rfl, rfl, rfl, rfl, rfl, rfl, trivial⟩⟩
  clear HE; rintro a _ ⟨rfl, HE⟩
  refine hK _ _ ?_; clear hK K
  refine cond HE rfl (fun h16 => ?_) (fun h16 => ?_)
  ·have h16r := h16; try simp only [zz1, zz2, zz3, zz4, zz5, zz6, zz7, zz8, zz9, zza, zzb] at h16
   refine wp_seq_k (fun K hK => ?_); refine wp_region_lit ?_
   refine o_move HE rfl rfl ?_; clear HE; intro a HE
   have hi17 : (1 : Int).toNat < l.length := by omega
   obtain ⟨eb17, eo17, hA17, el17⟩ := Rd.at hR (List.getElem?_eq_getElem hi17); cases hA17
   obtain ⟨x17, ex17⟩ : ∃ x, l[(1 : Int).toNat] = x := ⟨_, rfl⟩; rw [ex17] at el17
   have el17 := kof_open (enc := fun l => str l) el17
   refine o_ixL HE rfl rfl rfl T.l29 ⟨by omega, by omega⟩ ?_; clear HE; intro a HE
   refine o_ldI HE rfl HS rfl T.s9 el17 (j := 0) rfl rfl ?_; clear HE; intro a HE
   have hxl17 : x17.length ≤ 4294967280 := by rw [← ex17]; exact hls _ (List.getElem_mem _)
   refine o_callP HE rfl HS rfl rfl T.g84 (c_count x17 16 _ _ HS.sub (by first | assumption | decide) (by first | omega | (simp; done) | (simp; omega))) ?_
   clear HE HS; rintro _ w a HS rfl HE
   refine o_move HE rfl rfl ?_; clear HE; intro a HE
   refine o_extract HE rfl rfl rfl ?_; clear HE; intro a HE
   refine o_extract HE rfl rfl rfl ?_; clear HE; intro a HE
   refine o_assign HE rfl rfl ?_; clear HE; intro a HE
   refine o_assign HE rfl rfl ?_; clear HE; intro a HE
   refine hK _ _ ?_; clear hK K
   refine wp_seq_k (fun K hK => ?_); refine wp_region_lit ?_
   refine o_move HE rfl rfl ?_; clear HE; intro a HE
   refine o_move HE rfl rfl ?_; clear HE; intro a HE
   refine cutL 3 (fun a' w' => w = w' ∧ Env a' 63 [] [(41, .bool (((wayS x7).2) && (decide ((erv (countS x17 16)) = 0)))), (0, .pointer (some ⟨bp, 0, none⟩)), (1, .slice (some ⟨eb7, eo7, none⟩) l.length c), (2, .pointer (some ⟨bd, 0, none⟩)), (5, .bool false), (6, .int .i64 ((wayS x7).1)), (7, .bool ((wayS x7).2)), (8, .pointer (some ⟨B8, 0, none⟩)), (9, .int .i64 (okv (countS x17 16))), (11, .slice (some ⟨eb7, eo7, none⟩) l.length c), (12, .int .i64 (l.length : Int)), (13, .bool (decide ((l.length : Int) = 0))), (14, .tuple #[.int .i64 ((wayS x7).1), .bool ((wayS x7).2)]), (15, .slice (some ⟨eb7, eo7, none⟩) l.length c), (16, .pointer (some ⟨eb7, eo7 + (0 : Int).toNat * 1, none⟩)), (17, str x7), (18, .tuple #[.int .i64 ((wayS x7).1), .bool ((wayS x7).2)]), (19, .int .i64 ((wayS x7).1)), (20, .bool ((wayS x7).2)), (21, .int .i64 ((wayS x7).1)), (22, .agg #[.int .i64 ((wayS x7).1), .int .i64 0]), (29, .bool ((decide (((wayS x7).1) = 2)) && (decide ((l.length : Int) = 2)))), (30, .tuple #[.int .i64 (okv (countS x17 16)), .int .i64 (erv (countS x17 16))]), (31, .slice (some ⟨eb7, eo7, none⟩) l.length c), (32, .pointer (some ⟨eb7, eo7 + (1 : Int).toNat * 1, none⟩)), (33, str x17), (34, .tuple #[.int .i64 (okv (countS x17 16)), .int .i64 (erv (countS x17 16))]), (35, .int .i64 (okv (countS x17 16))), (36, .int .i64 (erv (countS x17 16)))]) ?_ ?_
   ·refine (Bool.eq_false_or_eq_true ((wayS x7).2)).elim (fun hb19 => ?_) (fun hb19 => ?_)
    ·skip
     have hk20 := hb19; try simp only [zz1, zz2, zz3, zz4, zz5, zz7, zz8, zz9, zza, zzb] at hk20
     refine op_on HE rfl rfl hb19 ?_
     refine o_move HE rfl rfl ?_; clear HE; intro a HE
     refine op_on HE rfl rfl hb19 ?_
     refine o_eqI HE rfl rfl rfl ?_; clear HE; intro a HE
     refine o_pick_t HE rfl rfl hb19 rfl ?_; clear HE; intro a HE
     exact ⟨rfl, HE.cut ⟨by rw [hb19]; rfl, rfl, rfl, rfl, rfl, rfl, rfl, rfl, rfl, rfl, rfl, rfl, rfl, rfl, rfl, rfl, rfl, rfl, rfl, rfl, rfl, rfl, rfl, rfl, rfl, rfl, rfl, rfl, rfl, trivial⟩⟩
    ·skip
     have hk21 := hb19; try simp only [zz1, zz2, zz3, zz4, zz5, zz7, zz8, zz9, zza, zzb] at hk21
     refine g_off HE rfl rfl rfl hb19 ?_; clear HE; intro a HE
     refine g_off HE rfl rfl rfl hb19 ?_; clear HE; intro a HE
     refine o_pick_f HE rfl rfl hb19 rfl ?_; clear HE; intro a HE
     exact ⟨rfl, HE.cut ⟨by rw [hb19]; rfl, rfl, rfl, rfl, rfl, rfl, rfl, rfl, rfl, rfl, rfl, rfl, rfl, rfl, rfl, rfl, rfl, rfl, rfl, rfl, rfl, rfl, rfl, rfl, rfl, rfl, rfl, rfl, rfl, trivial⟩⟩
   clear HE; rintro a _ ⟨rfl, HE⟩
   refine o_assign HE rfl rfl ?_; clear HE; intro a HE
   refine hK _ _ ?_; clear hK K
   replace HS := HS.conv (L2 := [(0, _), (1, _)]) (.here .here) ⟨rfl, rfl, trivial⟩
   have HE0 := HE
   have hR23 := Rd.take hR (1 : Int).toNat
   replace HE := HE.cut (L' := [(0, .pointer (some ⟨bp, 0, none⟩)), (2, .pointer (some ⟨bd, 0, none⟩)), (5, .bool false), (6, .int .i64 ((wayS x7).1)), (7, .bool (((wayS x7).2) && (decide ((erv (countS x17 16)) = 0)))), (8, .pointer (some ⟨B8, 0, none⟩)), (9, .int .i64 (okv (countS x17 16))), (11, .slice (some ⟨eb7, eo7, none⟩) l.length c), (12, .int .i64 (l.length : Int)), (13, .bool (decide ((l.length : Int) = 0))), (14, .tuple #[.int .i64 ((wayS x7).1), .bool ((wayS x7).2)]), (15, .slice (some ⟨eb7, eo7, none⟩) l.length c), (16, .pointer (some ⟨eb7, eo7 + (0 : Int).toNat * 1, none⟩)), (17, str x7), (18, .tuple #[.int .i64 ((wayS x7).1), .bool ((wayS x7).2)]), (19, .int .i64 ((wayS x7).1)), (20, .bool ((wayS x7).2)), (21, .int .i64 ((wayS x7).1)), (22, .agg #[.int .i64 ((wayS x7).1), .int .i64 0]), (29, .bool ((decide (((wayS x7).1) = 2)) && (decide ((l.length : Int) = 2)))), (30, .tuple #[.int .i64 (okv (countS x17 16)), .int .i64 (erv (countS x17 16))]), (31, .slice (some ⟨eb7, eo7, none⟩) l.length c), (32, .pointer (some ⟨eb7, eo7 + (1 : Int).toNat * 1, none⟩)), (33, str x17), (34, .tuple #[.int .i64 (okv (countS x17 16)), .int .i64 (erv (countS x17 16))]), (35, .int .i64 (okv (countS x17 16))), (36, .int .i64 (erv (countS x17 16))), (41, .bool (((wayS x7).2) && (decide ((erv (countS x17 16)) = 0))))]) ⟨rfl, rfl, rfl, rfl, rfl, rfl, rfl, rfl, rfl, rfl, rfl, rfl, rfl, rfl, rfl, rfl, rfl, rfl, rfl, rfl, rfl, rfl, rfl, rfl, rfl, rfl, rfl, rfl, trivial⟩
   refine drawnF (fun f G' w => Heap.le G G' ∧ St w0 G [bp] G' w [[(B8, Cells 23 [(0, .int .i64 ((wayS x7).1)), (1, bif f 4 then .int .i64 (okv (countS x17 16)) else .int .i64 0)])], [(bp, Cells 26 [(0, .int .i64 P.r0.way), (1, .int .i64 P.r0.size), (2, .int .i64 P.r1.way), (3, .int .i64 P.r1.size), (4, .int .i64 P.r2.way), (5, .int .i64 P.r2.size), (6, .int .i64 P.r3.way), (7, .int .i64 P.r3.size), (8, .int .i64 P.r4.way), (9, .int .i64 P.r4.size), (10, .int .i64 P.time), (11, .int .i64 P.note), (12, .bool P.loose), (13, .bool P.force)])]]) [fun v _ => v = .int .i64 (okv (countS x17 16)), fun v _ => v = .slice (some ⟨eb7, eo7, none⟩) l.length c, fun v _ => v = .slice (some ⟨eb7, eo7, none⟩) (((l).take (1 : Int).toNat).length) c, fun v _ => v = .pointer (some ⟨B8, 1, none⟩), fun _ _ => True, fun v _ => v = .slice (some ⟨eb7, eo7, none⟩) (((l).take (1 : Int).toNat).length) c] [(1, .slice (some ⟨eb7, eo7, none⟩) l.length c, 5)] T.mix rfl HE ⟨Heap.le.refl _, HS.drew⟩ rfl (fun t v k h => by simp only [List.mem_cons, Prod.mk.injEq, List.not_mem_nil, or_false] at h; obtain ⟨rfl, rfl, rfl⟩ := h; exact ⟨HE0.get _ _ rfl, rfl⟩) (AllM.get ⟨fun _ _ _ _ h => h, fun _ _ _ _ h => h, fun _ _ _ _ h => h, fun _ _ _ _ h => h, fun _ _ _ _ h => h, fun _ _ _ _ h => h, trivial⟩) ⟨?_, ?_, ?_, ?_, ?_, ?_, trivial⟩ ?_
   ·intro a w G1 f hcl hfi hon hW HE hp hO; obtain ⟨hl, HS⟩ := hW
    refine o_move HE rfl rfl ?_; clear HE; intro a HE
    exact ⟨_, _, Heap.le.refl _, ⟨hl, HS⟩, fun d hd => (by cases hd; exact HE.get _ _ rfl), HE.defers, rfl⟩
   ·intro a w G1 f hcl hfi hon hW HE hp hO; obtain ⟨hl, HS⟩ := hW
    have hfk : f 5 = false := by
     cases hq : f 5 with
     | false => rfl
     | true =>
      have hq := hcl 5 _ rfl hq 2 rfl
      have hq := hcl 2 _ rfl hq 1 rfl
      rw [hfi] at hq; cases hq
    replace HE := HE.add (hO 1 (.slice (some ⟨eb7, eo7, none⟩) l.length c) 5 (by simp) hfk)
    refine o_move HE rfl rfl ?_; clear HE; intro a HE
    exact ⟨_, _, Heap.le.refl _, ⟨hl, HS⟩, fun d hd => (by cases hd; exact HE.get _ _ rfl), HE.defers, rfl⟩
   ·intro a w G1 f hcl hfi hon hW HE hp hO; obtain ⟨hl, HS⟩ := hW
    obtain ⟨_, e1, rfl⟩ := hp 1 43 _ (hon 1 rfl) rfl rfl; replace HE := HE.add e1
    refine o_sliceRHi (K := Knd.s) (k := (1 : Int)) HE rfl rfl rfl T.l29 hR rfl (by omega) (by omega) ?_; clear HE; intro a _ _ HE
    exact ⟨_, _, Heap.le.refl _, ⟨hl, HS⟩, fun d hd => (by cases hd; exact HE.get _ _ rfl), HE.defers, rfl⟩
   ·intro a w G1 f hcl hfi hon hW HE hp hO; obtain ⟨hl, HS⟩ := hW
    refine o_fld HE rfl rfl T.f23_1 ?_; clear HE; intro a HE
    exact ⟨_, _, Heap.le.refl _, ⟨hl, HS⟩, fun d hd => (by cases hd; exact HE.get _ _ rfl), HE.defers, rfl⟩
   ·intro a w G1 f hcl hfi hon hW HE hp hO; obtain ⟨hl, HS⟩ := hW
    obtain ⟨_, e3, rfl⟩ := hp 3 45 _ (hon 3 rfl) rfl rfl; replace HE := HE.add e3
    obtain ⟨_, e0, rfl⟩ := hp 0 42 _ (hon 0 rfl) rfl rfl; replace HE := HE.add e0
    refine o_st HE HS rfl rfl rfl T.s3 (.here .here) rfl ?_; clear HS; intro w HS
    replace HS := HS.conv (L2 := [(0, _), (1, _)]) (.here .here) ⟨rfl, rfl, trivial⟩
    exact ⟨.bool true, _, Heap.le.refl _, ⟨hl, HS⟩, fun d hd => (by cases hd), HE.defers, trivial⟩
   ·intro a w G1 f hcl hfi hon hW HE hp hO; obtain ⟨hl, HS⟩ := hW
    obtain ⟨_, e2, rfl⟩ := hp 2 44 _ (hon 2 rfl) rfl rfl; replace HE := HE.add e2
    refine o_assign HE rfl rfl ?_; clear HE; intro a HE
    exact ⟨_, _, Heap.le.refl _, ⟨hl, HS⟩, fun d hd => (by cases hd; exact HE.get _ _ rfl), HE.defers, rfl⟩
   clear HE HS; intro a w G24 f hle25 hall HW HE hp; obtain ⟨_, HS⟩ := HW
   have hfw4 := hall 4 (by decide)
   simp only [hfw4, cond_true] at HS
   replace hR := hR.le hle25
   replace hCd := hCd.le hle25
   replace hgw := hgw.le hle25
   replace hR23 := hR23.le hle25
   obtain ⟨_, e5, rfl⟩ := hp 5 1 _ rfl rfl; replace HE := HE.add e5
   clear hp hall
   refine hK10 _ _ ?_; clear hK10
   refine wp_seq_k (fun K27 hK26 => ?_)
   replace HE := HE.cut (L' := [(0, .pointer (some ⟨bp, 0, none⟩)), (1, .slice (some ⟨eb7, eo7, none⟩) (((l).take (1 : Int).toNat).length) c), (2, .pointer (some ⟨bd, 0, none⟩)), (5, .bool false), (6, .int .i64 ((wayS x7).1)), (7, .bool (((wayS x7).2) && (decide ((erv (countS x17 16)) = 0)))), (8, .pointer (some ⟨B8, 0, none⟩)), (9, .int .i64 (okv (countS x17 16))), (11, .slice (some ⟨eb7, eo7, none⟩) l.length c), (12, .int .i64 (l.length : Int)), (13, .bool (decide ((l.length : Int) = 0))), (14, .tuple #[.int .i64 ((wayS x7).1), .bool ((wayS x7).2)]), (15, .slice (some ⟨eb7, eo7, none⟩) l.length c), (16, .pointer (some ⟨eb7, eo7 + (0 : Int).toNat * 1, none⟩)), (17, str x7), (18, .tuple #[.int .i64 ((wayS x7).1), .bool ((wayS x7).2)]), (19, .int .i64 ((wayS x7).1)), (20, .bool ((wayS x7).2)), (21, .int .i64 ((wayS x7).1)), (22, .agg #[.int .i64 ((wayS x7).1), .int .i64 0]), (29, .bool ((decide (((wayS x7).1) = 2)) && (decide ((l.length : Int) = 2)))), (30, .tuple #[.int .i64 (okv (countS x17 16)), .int .i64 (erv (countS x17 16))]), (31, .slice (some ⟨eb7, eo7, none⟩) l.length c), (32, .pointer (some ⟨eb7, eo7 + (1 : Int).toNat * 1, none⟩)), (33, str x17), (34, .tuple #[.int .i64 (okv (countS x17 16)), .int .i64 (erv (countS x17 16))]), (35, .int .i64 (okv (countS x17 16))), (36, .int .i64 (erv (countS x17 16))), (41, .bool (((wayS x7).2) && (decide ((erv (countS x17 16)) = 0))))]) ⟨rfl, rfl, rfl, rfl, rfl, rfl, rfl, rfl, rfl, rfl, rfl, rfl, rfl, rfl, rfl, rfl, rfl, rfl, rfl, rfl, rfl, rfl, rfl, rfl, rfl, rfl, rfl, rfl, rfl, trivial⟩
   refine drawnF (fun f G' w => Heap.le G24 G' ∧ St w0 G [bp] G' w [[(B8, Cells 23 [(0, .int .i64 ((wayS x7).1)), (1, .int .i64 (okv (countS x17 16)))])], [(bp, Cells 26 [(0, bif f 6 then .int .i64 ((wayS x7).1) else .int .i64 P.r0.way), (1, bif f 6 then .int .i64 (okv (countS x17 16)) else .int .i64 P.r0.size), (2, .int .i64 P.r1.way), (3, .int .i64 P.r1.size), (4, .int .i64 P.r2.way), (5, .int .i64 P.r2.size), (6, .int .i64 P.r3.way), (7, .int .i64 P.r3.size), (8, .int .i64 P.r4.way), (9, .int .i64 P.r4.size), (10, .int .i64 P.time), (11, .int .i64 P.note), (12, .bool P.loose), (13, .bool P.force)])]]) [fun v _ => v = .pointer (some ⟨bp, 0, none⟩), fun v _ => v = .int .i64 0, fun v _ => v = .agg #[.int .i64 ((wayS x7).1), .int .i64 (okv (countS x17 16))], fun v _ => v = .pointer (some ⟨bp, 0, none⟩), fun v _ => v = .pointer (some ⟨bp, 0, none⟩), fun v _ => v = .pointer (some ⟨bp, 0, none⟩), fun _ _ => True] [] T.mix rfl HE ⟨Heap.le.refl _, HS.drew⟩ rfl (by simp) (AllM.get ⟨fun _ _ _ _ h => h, fun _ _ _ _ h => h, fun _ _ _ _ h => h, fun _ _ _ _ h => h, fun _ _ _ _ h => h, fun _ _ _ _ h => h, fun _ _ _ _ h => h, trivial⟩) ⟨?_, ?_, ?_, ?_, ?_, ?_, ?_, trivial⟩ ?_
   ·intro a w G1 f hcl hfi hon hW HE hp hO; obtain ⟨hl, HS⟩ := hW
    refine o_move HE rfl rfl ?_; clear HE; intro a HE
    exact ⟨_, _, Heap.le.refl _, ⟨hl, HS⟩, fun d hd => (by cases hd; exact HE.get _ _ rfl), HE.defers, rfl⟩
   ·intro a w G1 f hcl hfi hon hW HE hp hO; obtain ⟨hl, HS⟩ := hW
    refine o_ldI HE rfl HS rfl T.s3 (hCd.le hl) (j := 0) rfl rfl ?_; clear HE; intro a HE
    exact ⟨_, _, Heap.le.refl _, ⟨hl, HS⟩, fun d hd => (by cases hd; exact HE.get _ _ rfl), HE.defers, rfl⟩
   ·intro a w G1 f hcl hfi hon hW HE hp hO; obtain ⟨hl, HS⟩ := hW
    refine o_ldA HE rfl HS rfl T.a23 (.here .here) rfl ?_; clear HE; intro a HE
    exact ⟨_, _, Heap.le.refl _, ⟨hl, HS⟩, fun d hd => (by cases hd; exact HE.get _ _ rfl), HE.defers, rfl⟩
   ·intro a w G1 f hcl hfi hon hW HE hp hO; obtain ⟨hl, HS⟩ := hW
    obtain ⟨_, e0, rfl⟩ := hp 0 46 _ (hon 0 rfl) rfl rfl; replace HE := HE.add e0
    refine o_nil HE rfl rfl ?_; clear HE; intro a HE
    exact ⟨_, _, Heap.le.refl _, ⟨hl, HS⟩, fun d hd => (by cases hd; exact HE.get _ _ rfl), HE.defers, rfl⟩
   ·intro a w G1 f hcl hfi hon hW HE hp hO; obtain ⟨hl, HS⟩ := hW
    obtain ⟨_, e3, rfl⟩ := hp 3 49 _ (hon 3 rfl) rfl rfl; replace HE := HE.add e3
    refine o_fld HE rfl rfl T.f26_0 ?_; clear HE; intro a HE
    exact ⟨_, _, Heap.le.refl _, ⟨hl, HS⟩, fun d hd => (by cases hd; exact HE.get _ _ rfl), HE.defers, rfl⟩
   ·intro a w G1 f hcl hfi hon hW HE hp hO; obtain ⟨hl, HS⟩ := hW
    obtain ⟨_, e4, rfl⟩ := hp 4 50 _ (hon 4 rfl) rfl rfl; replace HE := HE.add e4
    obtain ⟨_, e1, rfl⟩ := hp 1 47 _ (hon 1 rfl) rfl rfl; replace HE := HE.add e1
    refine o_ixA HE rfl rfl rfl T.r24 (by decide) ?_; clear HE; intro a HE
    exact ⟨_, _, Heap.le.refl _, ⟨hl, HS⟩, fun d hd => (by cases hd; exact HE.get _ _ rfl), HE.defers, rfl⟩
   ·intro a w G1 f hcl hfi hon hW HE hp hO; obtain ⟨hl, HS⟩ := hW
    obtain ⟨_, e5, rfl⟩ := hp 5 51 _ (hon 5 rfl) rfl rfl; replace HE := HE.add e5
    obtain ⟨_, e2, rfl⟩ := hp 2 48 _ (hon 2 rfl) rfl rfl; replace HE := HE.add e2
    refine o_stA HE HS rfl rfl rfl T.a23 (.there (.here .here)) rfl ?_; clear HS; intro w HS
    replace HS := HS.conv (L2 := [(0, _), (1, _), (2, _), (3, _), (4, _), (5, _), (6, _), (7, _), (8, _), (9, _), (10, _), (11, _), (12, _), (13, _)]) (.there (.here .here)) ⟨rfl, rfl, rfl, rfl, rfl, rfl, rfl, rfl, rfl, rfl, rfl, rfl, rfl, rfl, trivial⟩
    exact ⟨.bool true, _, Heap.le.refl _, ⟨hl, HS⟩, fun d hd => (by cases hd), HE.defers, trivial⟩
   clear HE HS; intro a w G28 f hle29 hall HW HE hp; obtain ⟨_, HS⟩ := HW
   have hfw6 := hall 6 (by decide)
   simp only [hfw6, cond_true] at HS
   replace hR := hR.le hle29
   replace hCd := hCd.le hle29
   replace hgw := hgw.le hle29
   replace hR23 := hR23.le hle29
   clear hp hall
   refine hK26 _ _ ?_; clear hK26
   refine wp_seq_k (fun K hK => ?_); refine wp_region_lit ?_
   refine o_move HE rfl rfl ?_; clear HE; intro a HE
   refine o_move HE rfl rfl ?_; clear HE; intro a HE
   refine cutL 4 (fun a' w' => w = w' ∧ Env a' 63 [] [(57, .bool ((((wayS x7).2) && (decide ((erv (countS x17 16)) = 0))) && (decide ((((l).take (1 : Int).toNat).length : Int) = 1)))), (0, .pointer (some ⟨bp, 0, none⟩)), (1, .slice (some ⟨eb7, eo7, none⟩) (((l).take (1 : Int).toNat).length) c), (2, .pointer (some ⟨bd, 0, none⟩)), (5, .bool false), (6, .int .i64 ((wayS x7).1)), (7, .bool (((wayS x7).2) && (decide ((erv (countS x17 16)) = 0)))), (8, .pointer (some ⟨B8, 0, none⟩)), (9, .int .i64 (okv (countS x17 16))), (11, .slice (some ⟨eb7, eo7, none⟩) l.length c), (12, .int .i64 (l.length : Int)), (13, .bool (decide ((l.length : Int) = 0))), (14, .tuple #[.int .i64 ((wayS x7).1), .bool ((wayS x7).2)]), (15, .slice (some ⟨eb7, eo7, none⟩) l.length c), (16, .pointer (some ⟨eb7, eo7 + (0 : Int).toNat * 1, none⟩)), (17, str x7), (18, .tuple #[.int .i64 ((wayS x7).1), .bool ((wayS x7).2)]), (19, .int .i64 ((wayS x7).1)), (20, .bool ((wayS x7).2)), (21, .int .i64 ((wayS x7).1)), (22, .agg #[.int .i64 ((wayS x7).1), .int .i64 0]), (29, .bool ((decide (((wayS x7).1) = 2)) && (decide ((l.length : Int) = 2)))), (30, .tuple #[.int .i64 (okv (countS x17 16)), .int .i64 (erv (countS x17 16))]), (31, .slice (some ⟨eb7, eo7, none⟩) l.length c), (32, .pointer (some ⟨eb7, eo7 + (1 : Int).toNat * 1, none⟩)), (33, str x17), (34, .tuple #[.int .i64 (okv (countS x17 16)), .int .i64 (erv (countS x17 16))]), (35, .int .i64 (okv (countS x17 16))), (36, .int .i64 (erv (countS x17 16))), (41, .bool (((wayS x7).2) && (decide ((erv (countS x17 16)) = 0))))]) ?_ ?_
   ·refine (Bool.eq_false_or_eq_true (((wayS x7).2) && (decide ((erv (countS x17 16)) = 0)))).elim (fun hb30 => ?_) (fun hb30 => ?_)
    ·skip
     have hk31 := hb30; try simp only [zz1, zz2, zz3, zz4, zz5, zz7, zz8, zz9, zza, zzb] at hk31
     refine op_on HE rfl rfl hb30 ?_
     refine o_move HE rfl rfl ?_; clear HE; intro a HE
     refine op_on HE rfl rfl hb30 ?_
     refine o_lenL HE rfl rfl Tryd.underlying29 ?_; clear HE; intro a HE
     refine op_on HE rfl rfl hb30 ?_
     refine o_eqI HE rfl rfl rfl ?_; clear HE; intro a HE
     refine o_pick_t HE rfl rfl hb30 rfl ?_; clear HE; intro a HE
     exact ⟨rfl, HE.cut ⟨by rw [hb30]; rfl, rfl, rfl, rfl, rfl, rfl, rfl, rfl, rfl, rfl, rfl, rfl, rfl, rfl, rfl, rfl, rfl, rfl, rfl, rfl, rfl, rfl, rfl, rfl, rfl, rfl, rfl, rfl, rfl, rfl, trivial⟩⟩
    ·skip
     have hk32 := hb30; try simp only [zz1, zz2, zz3, zz4, zz5, zz7, zz8, zz9, zza, zzb] at hk32
     refine g_off HE rfl rfl rfl hb30 ?_; clear HE; intro a HE
     refine g_off HE rfl rfl rfl hb30 ?_; clear HE; intro a HE
     refine g_off HE rfl rfl rfl hb30 ?_; clear HE; intro a HE
     refine o_pick_f HE rfl rfl hb30 rfl ?_; clear HE; intro a HE
     exact ⟨rfl, HE.cut ⟨by rw [hb30]; rfl, rfl, rfl, rfl, rfl, rfl, rfl, rfl, rfl, rfl, rfl, rfl, rfl, rfl, rfl, rfl, rfl, rfl, rfl, rfl, rfl, rfl, rfl, rfl, rfl, rfl, rfl, rfl, rfl, rfl, trivial⟩⟩
   clear HE; rintro a _ ⟨rfl, HE⟩
   refine o_move HE rfl rfl ?_; clear HE; intro a HE
   obtain ⟨M0, hM0, HS⟩ : ∃ M0, M0 = _ ∧ St w0 G [bp] G28 _ M0 := ⟨_, rfl, HS⟩
   refine cutL 4 (fun a' w' => St w0 G [bp] G28 w' M0 ∧ Env a' 63 [] [(62, .bool (((((wayS x7).2) && (decide ((erv (countS x17 16)) = 0))) && (decide ((((l).take (1 : Int).toNat).length : Int) = 1))) && (ruledB 0 ⟨(wayS x7).1, okv (countS x17 16)⟩))), (0, .pointer (some ⟨bp, 0, none⟩)), (1, .slice (some ⟨eb7, eo7, none⟩) (((l).take (1 : Int).toNat).length) c), (2, .pointer (some ⟨bd, 0, none⟩)), (5, .bool false), (6, .int .i64 ((wayS x7).1)), (7, .bool (((wayS x7).2) && (decide ((erv (countS x17 16)) = 0)))), (8, .pointer (some ⟨B8, 0, none⟩)), (9, .int .i64 (okv (countS x17 16))), (11, .slice (some ⟨eb7, eo7, none⟩) l.length c), (12, .int .i64 (l.length : Int)), (13, .bool (decide ((l.length : Int) = 0))), (14, .tuple #[.int .i64 ((wayS x7).1), .bool ((wayS x7).2)]), (15, .slice (some ⟨eb7, eo7, none⟩) l.length c), (16, .pointer (some ⟨eb7, eo7 + (0 : Int).toNat * 1, none⟩)), (17, str x7), (18, .tuple #[.int .i64 ((wayS x7).1), .bool ((wayS x7).2)]), (19, .int .i64 ((wayS x7).1)), (20, .bool ((wayS x7).2)), (21, .int .i64 ((wayS x7).1)), (22, .agg #[.int .i64 ((wayS x7).1), .int .i64 0]), (29, .bool ((decide (((wayS x7).1) = 2)) && (decide ((l.length : Int) = 2)))), (30, .tuple #[.int .i64 (okv (countS x17 16)), .int .i64 (erv (countS x17 16))]), (31, .slice (some ⟨eb7, eo7, none⟩) l.length c), (32, .pointer (some ⟨eb7, eo7 + (1 : Int).toNat * 1, none⟩)), (33, str x17), (34, .tuple #[.int .i64 (okv (countS x17 16)), .int .i64 (erv (countS x17 16))]), (35, .int .i64 (okv (countS x17 16))), (36, .int .i64 (erv (countS x17 16))), (41, .bool (((wayS x7).2) && (decide ((erv (countS x17 16)) = 0))))]) ?_ ?_
   ·refine (Bool.eq_false_or_eq_true ((((wayS x7).2) && (decide ((erv (countS x17 16)) = 0))) && (decide ((((l).take (1 : Int).toNat).length : Int) = 1)))).elim (fun hb33 => ?_) (fun hb33 => ?_)
    ·subst hM0
     have hk34 := hb33; try simp only [zz1, zz2, zz3, zz4, zz5, zz7, zz8, zz9, zza, zzb] at hk34
     refine op_on HE rfl rfl hb33 ?_
     refine o_ldI HE rfl HS rfl T.s3 hCd (j := 0) rfl rfl ?_; clear HE; intro a HE
     refine op_on HE rfl rfl hb33 ?_
     refine o_ldA HE rfl HS rfl T.a23 (.here .here) rfl ?_; clear HE; intro a HE
     refine op_on HE rfl rfl hb33 ?_
     refine o_callP HE rfl HS rfl rfl T.g41 (c_ruled 0 (⟨(wayS x7).1, okv (countS x17 16)⟩ : Rul) _ _ HS.sub) ?_
     clear HE HS; rintro _ w a HS rfl HE
     refine o_pick_t HE rfl rfl hb33 rfl ?_; clear HE; intro a HE
     exact ⟨HS, HE.cut ⟨by rw [hb33]; rfl, rfl, rfl, rfl, rfl, rfl, rfl, rfl, rfl, rfl, rfl, rfl, rfl, rfl, rfl, rfl, rfl, rfl, rfl, rfl, rfl, rfl, rfl, rfl, rfl, rfl, rfl, rfl, rfl, rfl, trivial⟩⟩
    ·subst hM0
     have hk35 := hb33; try simp only [zz1, zz2, zz3, zz4, zz5, zz7, zz8, zz9, zza, zzb] at hk35
     refine g_off HE rfl rfl rfl hb33 ?_; clear HE; intro a HE
     refine g_off HE rfl rfl rfl hb33 ?_; clear HE; intro a HE
     refine g_off HE rfl rfl rfl hb33 ?_; clear HE; intro a HE
     refine o_pick_f HE rfl rfl hb33 rfl ?_; clear HE; intro a HE
     exact ⟨HS, HE.cut ⟨by rw [hb33]; rfl, rfl, rfl, rfl, rfl, rfl, rfl, rfl, rfl, rfl, rfl, rfl, rfl, rfl, rfl, rfl, rfl, rfl, rfl, rfl, rfl, rfl, rfl, rfl, rfl, rfl, rfl, rfl, rfl, rfl, trivial⟩⟩
   clear HE HS; rintro a w ⟨HS, HE⟩; subst hM0
   refine o_assign HE rfl rfl ?_; clear HE; intro a HE
   refine hK _ _ ?_; clear hK K
   refine wp_ret ?_
   show Q .ret _ _
   refine ret hQ HE rfl (HE.res rfl .nil) ?_
   replace HS := HS.drop (M' := [_]) (sub_drop (sub_keep sub_nil))
   have e0 : w0S l = wayS x7 := by unfold w0S; rw [get0 ex7]
   have e1 := get1 ex17
   have he : ruleS 0 P l = ((⟨⟨(wayS x7).1, okv (countS x17 16)⟩, ⟨P.r1.way, P.r1.size⟩, ⟨P.r2.way, P.r2.size⟩, ⟨P.r3.way, P.r3.size⟩, ⟨P.r4.way, P.r4.size⟩, P.time, P.note, P.loose, P.force⟩ : Pol), ((((wayS x7).2) && (decide ((erv (countS x17 16)) = 0))) && (decide ((((l).take (1 : Int).toNat).length : Int) = 1))) && (ruledB 0 ⟨(wayS x7).1, okv (countS x17 16)⟩)) := by
    unfold ruleS
    rw [if_neg (by omega), if_pos (by rw [e0]; omega), e0, e1]
    rw [show decide (((l.take (1 : Int).toNat).length : Int) = 1) = true from decide_eq_true (by rw [List.length_take]; omega), Bool.and_true]
    rfl
   exact ⟨_, [(bp, Cells 26 [(0, .int .i64 ((wayS x7).1)), (1, .int .i64 (okv (countS x17 16))), (2, .int .i64 P.r1.way), (3, .int .i64 P.r1.size), (4, .int .i64 P.r2.way), (5, .int .i64 P.r2.size), (6, .int .i64 P.r3.way), (7, .int .i64 P.r3.size), (8, .int .i64 P.r4.way), (9, .int .i64 P.r4.size), (10, .int .i64 P.time), (11, .int .i64 P.note), (12, .bool P.loose), (13, .bool P.force)])], HS.stop (by simp), by rw [he] <;> rfl, by rw [he] <;> rfl⟩
  ·have h16r := h16; try simp only [zz1, zz2, zz3, zz4, zz5, zz6, zz7, zz8, zz9, zza, zzb] at h16
   refine wp_skip ?_
   refine hK10 _ _ ?_; clear hK10
   refine wp_seq_k (fun K38 hK37 => ?_)
   replace HS := HS.conv (L2 := [(0, _), (1, _)]) (.here .here) ⟨rfl, rfl, trivial⟩
   replace HE := HE.cut (L' := [(0, .pointer (some ⟨bp, 0, none⟩)), (1, .slice (some ⟨eb7, eo7, none⟩) l.length c), (2, .pointer (some ⟨bd, 0, none⟩)), (5, .bool false), (6, .int .i64 ((wayS x7).1)), (7, .bool ((wayS x7).2)), (8, .pointer (some ⟨B8, 0, none⟩)), (11, .slice (some ⟨eb7, eo7, none⟩) l.length c), (12, .int .i64 (l.length : Int)), (13, .bool (decide ((l.length : Int) = 0))), (14, .tuple #[.int .i64 ((wayS x7).1), .bool ((wayS x7).2)]), (15, .slice (some ⟨eb7, eo7, none⟩) l.length c), (16, .pointer (some ⟨eb7, eo7 + (0 : Int).toNat * 1, none⟩)), (17, str x7), (18, .tuple #[.int .i64 ((wayS x7).1), .bool ((wayS x7).2)]), (19, .int .i64 ((wayS x7).1)), (20, .bool ((wayS x7).2)), (21, .int .i64 ((wayS x7).1)), (22, .agg #[.int .i64 ((wayS x7).1), .int .i64 0]), (29, .bool ((decide (((wayS x7).1) = 2)) && (decide ((l.length : Int) = 2))))]) ⟨rfl, rfl, rfl, rfl, rfl, rfl, rfl, rfl, rfl, rfl, rfl, rfl, rfl, rfl, rfl, rfl, rfl, rfl, rfl, rfl, trivial⟩
   refine drawnF (fun f G' w => Heap.le G G' ∧ St w0 G [bp] G' w [[(B8, Cells 23 [(0, .int .i64 ((wayS x7).1)), (1, .int .i64 0)])], [(bp, Cells 26 [(0, bif f 6 then .int .i64 ((wayS x7).1) else .int .i64 P.r0.way), (1, bif f 6 then .int .i64 0 else .int .i64 P.r0.size), (2, .int .i64 P.r1.way), (3, .int .i64 P.r1.size), (4, .int .i64 P.r2.way), (5, .int .i64 P.r2.size), (6, .int .i64 P.r3.way), (7, .int .i64 P.r3.size), (8, .int .i64 P.r4.way), (9, .int .i64 P.r4.size), (10, .int .i64 P.time), (11, .int .i64 P.note), (12, .bool P.loose), (13, .bool P.force)])]]) [fun v _ => v = .pointer (some ⟨bp, 0, none⟩), fun v _ => v = .int .i64 0, fun v _ => v = .agg #[.int .i64 ((wayS x7).1), .int .i64 0], fun v _ => v = .pointer (some ⟨bp, 0, none⟩), fun v _ => v = .pointer (some ⟨bp, 0, none⟩), fun v _ => v = .pointer (some ⟨bp, 0, none⟩), fun _ _ => True] [] T.mix rfl HE ⟨Heap.le.refl _, HS.drew⟩ rfl (by simp) (AllM.get ⟨fun _ _ _ _ h => h, fun _ _ _ _ h => h, fun _ _ _ _ h => h, fun _ _ _ _ h => h, fun _ _ _ _ h => h, fun _ _ _ _ h => h, fun _ _ _ _ h => h, trivial⟩) ⟨?_, ?_, ?_, ?_, ?_, ?_, ?_, trivial⟩ ?_
   ·intro a w G1 f hcl hfi hon hW HE hp hO; obtain ⟨hl, HS⟩ := hW
    refine o_move HE rfl rfl ?_; clear HE; intro a HE
    exact ⟨_, _, Heap.le.refl _, ⟨hl, HS⟩, fun d hd => (by cases hd; exact HE.get _ _ rfl), HE.defers, rfl⟩
   ·intro a w G1 f hcl hfi hon hW HE hp hO; obtain ⟨hl, HS⟩ := hW
    refine o_ldI HE rfl HS rfl T.s3 (hCd.le hl) (j := 0) rfl rfl ?_; clear HE; intro a HE
    exact ⟨_, _, Heap.le.refl _, ⟨hl, HS⟩, fun d hd => (by cases hd; exact HE.get _ _ rfl), HE.defers, rfl⟩
   ·intro a w G1 f hcl hfi hon hW HE hp hO; obtain ⟨hl, HS⟩ := hW
    refine o_ldA HE rfl HS rfl T.a23 (.here .here) rfl ?_; clear HE; intro a HE
    exact ⟨_, _, Heap.le.refl _, ⟨hl, HS⟩, fun d hd => (by cases hd; exact HE.get _ _ rfl), HE.defers, rfl⟩
   ·intro a w G1 f hcl hfi hon hW HE hp hO; obtain ⟨hl, HS⟩ := hW
    obtain ⟨_, e0, rfl⟩ := hp 0 46 _ (hon 0 rfl) rfl rfl; replace HE := HE.add e0
    refine o_nil HE rfl rfl ?_; clear HE; intro a HE
    exact ⟨_, _, Heap.le.refl _, ⟨hl, HS⟩, fun d hd => (by cases hd; exact HE.get _ _ rfl), HE.defers, rfl⟩
   ·intro a w G1 f hcl hfi hon hW HE hp hO; obtain ⟨hl, HS⟩ := hW
    obtain ⟨_, e3, rfl⟩ := hp 3 49 _ (hon 3 rfl) rfl rfl; replace HE := HE.add e3
    refine o_fld HE rfl rfl T.f26_0 ?_; clear HE; intro a HE
    exact ⟨_, _, Heap.le.refl _, ⟨hl, HS⟩, fun d hd => (by cases hd; exact HE.get _ _ rfl), HE.defers, rfl⟩
   ·intro a w G1 f hcl hfi hon hW HE hp hO; obtain ⟨hl, HS⟩ := hW
    obtain ⟨_, e4, rfl⟩ := hp 4 50 _ (hon 4 rfl) rfl rfl; replace HE := HE.add e4
    obtain ⟨_, e1, rfl⟩ := hp 1 47 _ (hon 1 rfl) rfl rfl; replace HE := HE.add e1
    refine o_ixA HE rfl rfl rfl T.r24 (by decide) ?_; clear HE; intro a HE
    exact ⟨_, _, Heap.le.refl _, ⟨hl, HS⟩, fun d hd => (by cases hd; exact HE.get _ _ rfl), HE.defers, rfl⟩
   ·intro a w G1 f hcl hfi hon hW HE hp hO; obtain ⟨hl, HS⟩ := hW
    obtain ⟨_, e5, rfl⟩ := hp 5 51 _ (hon 5 rfl) rfl rfl; replace HE := HE.add e5
    obtain ⟨_, e2, rfl⟩ := hp 2 48 _ (hon 2 rfl) rfl rfl; replace HE := HE.add e2
    refine o_stA HE HS rfl rfl rfl T.a23 (.there (.here .here)) rfl ?_; clear HS; intro w HS
    replace HS := HS.conv (L2 := [(0, _), (1, _), (2, _), (3, _), (4, _), (5, _), (6, _), (7, _), (8, _), (9, _), (10, _), (11, _), (12, _), (13, _)]) (.there (.here .here)) ⟨rfl, rfl, rfl, rfl, rfl, rfl, rfl, rfl, rfl, rfl, rfl, rfl, rfl, rfl, trivial⟩
    exact ⟨.bool true, _, Heap.le.refl _, ⟨hl, HS⟩, fun d hd => (by cases hd), HE.defers, trivial⟩
   clear HE HS; intro a w G39 f hle40 hall HW HE hp; obtain ⟨_, HS⟩ := HW
   have hfw6 := hall 6 (by decide)
   simp only [hfw6, cond_true] at HS
   replace hR := hR.le hle40
   replace hCd := hCd.le hle40
   replace hgw := hgw.le hle40
   clear hp hall
   refine hK37 _ _ ?_; clear hK37
   refine wp_seq_k (fun K hK => ?_); refine wp_region_lit ?_
   refine o_move HE rfl rfl ?_; clear HE; intro a HE
   refine o_move HE rfl rfl ?_; clear HE; intro a HE
   refine cutL 4 (fun a' w' => w = w' ∧ Env a' 63 [] [(57, .bool (((wayS x7).2) && (decide ((l.length : Int) = 1)))), (0, .pointer (some ⟨bp, 0, none⟩)), (1, .slice (some ⟨eb7, eo7, none⟩) l.length c), (2, .pointer (some ⟨bd, 0, none⟩)), (5, .bool false), (6, .int .i64 ((wayS x7).1)), (7, .bool ((wayS x7).2)), (8, .pointer (some ⟨B8, 0, none⟩)), (11, .slice (some ⟨eb7, eo7, none⟩) l.length c), (12, .int .i64 (l.length : Int)), (13, .bool (decide ((l.length : Int) = 0))), (14, .tuple #[.int .i64 ((wayS x7).1), .bool ((wayS x7).2)]), (15, .slice (some ⟨eb7, eo7, none⟩) l.length c), (16, .pointer (some ⟨eb7, eo7 + (0 : Int).toNat * 1, none⟩)), (17, str x7), (18, .tuple #[.int .i64 ((wayS x7).1), .bool ((wayS x7).2)]), (19, .int .i64 ((wayS x7).1)), (20, .bool ((wayS x7).2)), (21, .int .i64 ((wayS x7).1)), (22, .agg #[.int .i64 ((wayS x7).1), .int .i64 0]), (29, .bool ((decide (((wayS x7).1) = 2)) && (decide ((l.length : Int) = 2))))]) ?_ ?_
   ·refine (Bool.eq_false_or_eq_true ((wayS x7).2)).elim (fun hb41 => ?_) (fun hb41 => ?_)
    ·skip
     have hk42 := hb41; try simp only [zz1, zz2, zz3, zz4, zz5, zz7, zz8, zz9, zza, zzb] at hk42
     refine op_on HE rfl rfl hb41 ?_
     refine o_move HE rfl rfl ?_; clear HE; intro a HE
     refine op_on HE rfl rfl hb41 ?_
     refine o_lenL HE rfl rfl Tryd.underlying29 ?_; clear HE; intro a HE
     refine op_on HE rfl rfl hb41 ?_
     refine o_eqI HE rfl rfl rfl ?_; clear HE; intro a HE
     refine o_pick_t HE rfl rfl hb41 rfl ?_; clear HE; intro a HE
     exact ⟨rfl, HE.cut ⟨by rw [hb41]; rfl, rfl, rfl, rfl, rfl, rfl, rfl, rfl, rfl, rfl, rfl, rfl, rfl, rfl, rfl, rfl, rfl, rfl, rfl, rfl, rfl, trivial⟩⟩
    ·skip
     have hk43 := hb41; try simp only [zz1, zz2, zz3, zz4, zz5, zz7, zz8, zz9, zza, zzb] at hk43
     refine g_off HE rfl rfl rfl hb41 ?_; clear HE; intro a HE
     refine g_off HE rfl rfl rfl hb41 ?_; clear HE; intro a HE
     refine g_off HE rfl rfl rfl hb41 ?_; clear HE; intro a HE
     refine o_pick_f HE rfl rfl hb41 rfl ?_; clear HE; intro a HE
     exact ⟨rfl, HE.cut ⟨by rw [hb41]; rfl, rfl, rfl, rfl, rfl, rfl, rfl, rfl, rfl, rfl, rfl, rfl, rfl, rfl, rfl, rfl, rfl, rfl, rfl, rfl, rfl, trivial⟩⟩
   clear HE; rintro a _ ⟨rfl, HE⟩
   refine o_move HE rfl rfl ?_; clear HE; intro a HE
   obtain ⟨M0, hM0, HS⟩ : ∃ M0, M0 = _ ∧ St w0 G [bp] G39 _ M0 := ⟨_, rfl, HS⟩
   refine cutL 4 (fun a' w' => St w0 G [bp] G39 w' M0 ∧ Env a' 63 [] [(62, .bool ((((wayS x7).2) && (decide ((l.length : Int) = 1))) && (ruledB 0 ⟨(wayS x7).1, 0⟩))), (0, .pointer (some ⟨bp, 0, none⟩)), (1, .slice (some ⟨eb7, eo7, none⟩) l.length c), (2, .pointer (some ⟨bd, 0, none⟩)), (5, .bool false), (6, .int .i64 ((wayS x7).1)), (7, .bool ((wayS x7).2)), (8, .pointer (some ⟨B8, 0, none⟩)), (11, .slice (some ⟨eb7, eo7, none⟩) l.length c), (12, .int .i64 (l.length : Int)), (13, .bool (decide ((l.length : Int) = 0))), (14, .tuple #[.int .i64 ((wayS x7).1), .bool ((wayS x7).2)]), (15, .slice (some ⟨eb7, eo7, none⟩) l.length c), (16, .pointer (some ⟨eb7, eo7 + (0 : Int).toNat * 1, none⟩)), (17, str x7), (18, .tuple #[.int .i64 ((wayS x7).1), .bool ((wayS x7).2)]), (19, .int .i64 ((wayS x7).1)), (20, .bool ((wayS x7).2)), (21, .int .i64 ((wayS x7).1)), (22, .agg #[.int .i64 ((wayS x7).1), .int .i64 0]), (29, .bool ((decide (((wayS x7).1) = 2)) && (decide ((l.length : Int) = 2))))]) ?_ ?_
   ·refine (Bool.eq_false_or_eq_true (((wayS x7).2) && (decide ((l.length : Int) = 1)))).elim (fun hb44 => ?_) (fun hb44 => ?_)
    ·subst hM0
     have hk45 := hb44; try simp only [zz1, zz2, zz3, zz4, zz5, zz7, zz8, zz9, zza, zzb] at hk45
     refine op_on HE rfl rfl hb44 ?_
     refine o_ldI HE rfl HS rfl T.s3 hCd (j := 0) rfl rfl ?_; clear HE; intro a HE
     refine op_on HE rfl rfl hb44 ?_
     refine o_ldA HE rfl HS rfl T.a23 (.here .here) rfl ?_; clear HE; intro a HE
     refine op_on HE rfl rfl hb44 ?_
     refine o_callP HE rfl HS rfl rfl T.g41 (c_ruled 0 (⟨(wayS x7).1, 0⟩ : Rul) _ _ HS.sub) ?_
     clear HE HS; rintro _ w a HS rfl HE
     refine o_pick_t HE rfl rfl hb44 rfl ?_; clear HE; intro a HE
     exact ⟨HS, HE.cut ⟨by rw [hb44]; rfl, rfl, rfl, rfl, rfl, rfl, rfl, rfl, rfl, rfl, rfl, rfl, rfl, rfl, rfl, rfl, rfl, rfl, rfl, rfl, rfl, trivial⟩⟩
    ·subst hM0
     have hk46 := hb44; try simp only [zz1, zz2, zz3, zz4, zz5, zz7, zz8, zz9, zza, zzb] at hk46
     refine g_off HE rfl rfl rfl hb44 ?_; clear HE; intro a HE
     refine g_off HE rfl rfl rfl hb44 ?_; clear HE; intro a HE
     refine g_off HE rfl rfl rfl hb44 ?_; clear HE; intro a HE
     refine o_pick_f HE rfl rfl hb44 rfl ?_; clear HE; intro a HE
     exact ⟨HS, HE.cut ⟨by rw [hb44]; rfl, rfl, rfl, rfl, rfl, rfl, rfl, rfl, rfl, rfl, rfl, rfl, rfl, rfl, rfl, rfl, rfl, rfl, rfl, rfl, rfl, trivial⟩⟩
   clear HE HS; rintro a w ⟨HS, HE⟩; subst hM0
   refine o_assign HE rfl rfl ?_; clear HE; intro a HE
   refine hK _ _ ?_; clear hK K
   refine wp_ret ?_
   show Q .ret _ _
   refine ret hQ HE rfl (HE.res rfl .nil) ?_
   replace HS := HS.drop (M' := [_]) (sub_drop (sub_keep sub_nil))
   have e0 : w0S l = wayS x7 := by unfold w0S; rw [get0 ex7]
   have he : ruleS 0 P l = ((⟨⟨(wayS x7).1, 0⟩, ⟨P.r1.way, P.r1.size⟩, ⟨P.r2.way, P.r2.size⟩, ⟨P.r3.way, P.r3.size⟩, ⟨P.r4.way, P.r4.size⟩, P.time, P.note, P.loose, P.force⟩ : Pol), (((wayS x7).2) && (decide ((l.length : Int) = 1))) && (ruledB 0 ⟨(wayS x7).1, 0⟩)) := by
    unfold ruleS
    rw [if_neg (by omega), if_neg (by rw [e0]; omega), e0]
    rw [show decide ((l.length : Int) = 1) = decide (l.length = 1) from decide_eq_decide.2 (by omega)]
    rfl
   exact ⟨_, [(bp, Cells 26 [(0, .int .i64 ((wayS x7).1)), (1, .int .i64 0), (2, .int .i64 P.r1.way), (3, .int .i64 P.r1.size), (4, .int .i64 P.r2.way), (5, .int .i64 P.r2.size), (6, .int .i64 P.r3.way), (7, .int .i64 P.r3.size), (8, .int .i64 P.r4.way), (9, .int .i64 P.r4.size), (10, .int .i64 P.time), (11, .int .i64 P.note), (12, .bool P.loose), (13, .bool P.force)])], HS.stop (by simp), by rw [he] <;> rfl, by rw [he] <;> rfl⟩

/-! `incognito/policy.rule$1` -/
set_option maxRecDepth 100000 in
set_option maxHeartbeats 4000000 in
theorem c_rule1 (P : Pol) (l : List Bs) (A : Option Addr) (c : Nat) (bp : Nat) (bd : Nat) {W0 : World} {H0 : Heap} {L0 : List Nat} {M0 : List Chunk} (w0 : World) (G : Heap) (hS0 : St W0 H0 L0 G w0 ([(bp, Cells 26 [(0, .int .i64 P.r0.way), (1, .int .i64 P.r0.size), (2, .int .i64 P.r1.way), (3, .int .i64 P.r1.size), (4, .int .i64 P.r2.way), (5, .int .i64 P.r2.size), (6, .int .i64 P.r3.way), (7, .int .i64 P.r3.size), (8, .int .i64 P.r4.way), (9, .int .i64 P.r4.size), (10, .int .i64 P.time), (11, .int .i64 P.note), (12, .bool P.loose), (13, .bool P.force)])] :: M0)) (hR : Rd Knd.s G A l) (hc : l.length ≤ c) (hl : l.length ≤ 4294967281) (hls : ∀ x ∈ l, x.length ≤ 4294967280) (hCd : CellsAt G bd 0 [.int .i64 1]) (hgw : CellsAt G 1 0 [str [107, 101, 101, 112], str [111, 114, 100, 105, 110, 97, 108], str [107, 101, 121, 101, 100], str [114, 97, 110, 107], str [100, 114, 111, 112]]):
  Calls Tryd.prog 103 #[.pointer (some ⟨bp, 0, none⟩), .slice A l.length c, .pointer (some ⟨bd, 0, none⟩)] w0 (X.Ends w0 G [bp] (fun v G' C' => v = .bool (ruleS 1 P l).2 ∧ C' = [(bp, Cells 26 (pcE (ruleS 1 P l).1))]) (fun _ _ _ => False)) := by
 refine enter Tryd.func103 rfl Tryd.ntmps103 rfl ?_
 intro Q hQ a HE
 have HS := St.start (C := [(bp, Cells 26 [(0, .int .i64 P.r0.way), (1, .int .i64 P.r0.size), (2, .int .i64 P.r1.way), (3, .int .i64 P.r1.size), (4, .int .i64 P.r2.way), (5, .int .i64 P.r2.size), (6, .int .i64 P.r3.way), (7, .int .i64 P.r3.size), (8, .int .i64 P.r4.way), (9, .int .i64 P.r4.size), (10, .int .i64 P.time), (11, .int .i64 P.note), (12, .bool P.loose), (13, .bool P.force)])]) hS0.sub (fun p hp => hS0.mem p (by simp only [List.flatten_cons, List.mem_append]; exact .inl hp)) (fun p hp => hS0.sep p (by simp only [List.flatten_cons, List.mem_append]; exact .inl hp)) (by simp [X.keys])
 change St w0 G [bp] G w0 _ at HS
 refine wp_seq_k (fun K hK => ?_); refine wp_region_lit ?_
 refine o_assign HE rfl rfl ?_; clear HE; intro a HE
 refine hK _ _ ?_; clear hK K
 refine wp_seq_k (fun K3 hK2 => ?_)
 refine wp_seq_k (fun K hK => ?_); refine wp_region_lit ?_
 refine o_move HE rfl rfl ?_; clear HE; intro a HE
 refine o_lenL HE rfl rfl Tryd.underlying29 ?_; clear HE; intro a HE
 refine o_eqI HE rfl rfl rfl ?_; clear HE; intro a HE
 refine hK _ _ ?_; clear hK K
 refine cond HE rfl (fun h5 => ?_) (fun h5 => ?_)
 ·have h5r := h5; try simp only [zz1, zz2, zz3, zz4, zz5, zz6, zz7, zz8, zz9, zza, zzb] at h5
  refine wp_seq_k (fun K hK => ?_); refine wp_region_lit ?_
  refine o_assign HE rfl rfl ?_; clear HE; intro a HE
  refine hK _ _ ?_; clear hK K
  refine wp_ret ?_
  show Q .ret _ _
  refine ret hQ HE rfl (HE.res rfl .nil) ?_
  have he : ruleS 1 P l = ((⟨⟨P.r0.way, P.r0.size⟩, ⟨P.r1.way, P.r1.size⟩, ⟨P.r2.way, P.r2.size⟩, ⟨P.r3.way, P.r3.size⟩, ⟨P.r4.way, P.r4.size⟩, P.time, P.note, P.loose, P.force⟩ : Pol), false) := by
   unfold ruleS
   rw [if_pos (by omega)]
  exact ⟨_, [(bp, Cells 26 [(0, .int .i64 P.r0.way), (1, .int .i64 P.r0.size), (2, .int .i64 P.r1.way), (3, .int .i64 P.r1.size), (4, .int .i64 P.r2.way), (5, .int .i64 P.r2.size), (6, .int .i64 P.r3.way), (7, .int .i64 P.r3.size), (8, .int .i64 P.r4.way), (9, .int .i64 P.r4.size), (10, .int .i64 P.time), (11, .int .i64 P.note), (12, .bool P.loose), (13, .bool P.force)])], HS.stop (by simp), by rw [he] <;> rfl, by rw [he] <;> rfl⟩
 ·have h5r := h5; try simp only [zz1, zz2, zz3, zz4, zz5, zz6, zz7, zz8, zz9, zza, zzb] at h5
  refine wp_skip ?_
  refine hK2 _ _ ?_; clear hK2
  refine wp_seq_k (fun K hK => ?_); refine wp_region_lit ?_
  refine o_move HE rfl rfl ?_; clear HE; intro a HE
  have hi7 : (0 : Int).toNat < l.length := by omega
  obtain ⟨eb7, eo7, hA7, el7⟩ := Rd.at hR (List.getElem?_eq_getElem hi7); cases hA7
  obtain ⟨x7, ex7⟩ : ∃ x, l[(0 : Int).toNat] = x := ⟨_, rfl⟩; rw [ex7] at el7
  have el7 := kof_open (enc := fun l => str l) el7
  refine o_ixL HE rfl rfl rfl T.l29 ⟨by omega, by omega⟩ ?_; clear HE; intro a HE
  refine o_ldI HE rfl HS rfl T.s9 el7 (j := 0) rfl rfl ?_; clear HE; intro a HE
  refine o_callP HE rfl HS rfl rfl T.g72 (c_way x7 _ _ HS.sub hgw) ?_
  clear HE HS; rintro _ w a HS rfl HE
  refine o_move HE rfl rfl ?_; clear HE; intro a HE
  refine o_extract HE rfl rfl rfl ?_; clear HE; intro a HE
  refine o_extract HE rfl rfl rfl ?_; clear HE; intro a HE
  refine o_assign HE rfl rfl ?_; clear HE; intro a HE
  refine o_assign HE rfl rfl ?_; clear HE; intro a HE
  refine hK _ _ ?_; clear hK K
  refine wp_seq_k (fun K hK => ?_); refine wp_region_lit ?_
  refine o_move HE rfl rfl ?_; clear HE; intro a HE
  refine o_build (cs := #[.int .i64 ((wayS x7).1), .int .i64 0]) HE rfl rfl (by kernel_rfl) ?_; clear HE; intro a HE
  refine o_allocL [(0, _), (1, _)] HE rfl HS T.z23 ⟨rfl, rfl, trivial⟩ ?_; clear HE HS; intro B8 w a HS HE
  refine o_stA HE HS rfl rfl rfl T.a23 (.here .here) rfl ?_; clear HS; intro w HS
  refine hK _ _ ?_; clear hK K
  refine wp_seq_k (fun K11 hK10 => ?_)
  refine wp_seq_k (fun K hK => ?_); refine wp_region_lit ?_
  refine o_move HE rfl rfl ?_; clear HE; intro a HE
  refine o_eqI HE rfl rfl rfl ?_; clear HE; intro a HE
  refine o_move HE rfl rfl ?_; clear HE; intro a HE
  refine cutL 4 (fun a' w' => w = w' ∧ Env a' 63 [] [(29, .bool ((decide (((wayS x7).1) = 2)) && (decide ((l.length : Int) = 2)))), (0, .pointer (some ⟨bp, 0, none⟩)), (1, .slice (some ⟨eb7, eo7, none⟩) l.length c), (2, .pointer (some ⟨bd, 0, none⟩)), (5, .bool false), (6, .int .i64 ((wayS x7).1)), (7, .bool ((wayS x7).2)), (8, .pointer (some ⟨B8, 0, none⟩)), (11, .slice (some ⟨eb7, eo7, none⟩) l.length c), (12, .int .i64 (l.length : Int)), (13, .bool (decide ((l.length : Int) = 0))), (14, .tuple #[.int .i64 ((wayS x7).1), .bool ((wayS x7).2)]), (15, .slice (some ⟨eb7, eo7, none⟩) l.length c), (16, .pointer (some ⟨eb7, eo7 + (0 : Int).toNat * 1, none⟩)), (17, str x7), (18, .tuple #[.int .i64 ((wayS x7).1), .bool ((wayS x7).2)]), (19, .int .i64 ((wayS x7).1)), (20, .bool ((wayS x7).2)), (21, .int .i64 ((wayS x7).1)), (22, .agg #[.int .i64 ((wayS x7).1), .int .i64 0])]) ?_ ?_
  ·refine (Bool.eq_false_or_eq_true (decide (((wayS x7).1) = 2))).elim (fun hb12 => ?_) (fun hb12 => ?_)
   ·skip
    have hk13 := hb12; try simp only [zz1, zz2, zz3, zz4, zz5, zz7, zz8, zz9, zza, zzb] at hk13
    refine op_on HE rfl rfl hb12 ?_
    refine o_move HE rfl rfl ?_; clear HE; intro a HE
    refine op_on HE rfl rfl hb12 ?_
    refine o_lenL HE rfl rfl Tryd.underlying29 ?_; clear HE; intro a HE
    refine op_on HE rfl rfl hb12 ?_
    refine o_eqI HE rfl rfl rfl ?_; clear HE; intro a HE
    refine o_pick_t HE rfl rfl hb12 rfl ?_; clear HE; intro a HE
    exact ⟨rfl, HE.cut ⟨by rw [hb12]; rfl, rfl, rfl, rfl, rfl, rfl, rfl, rfl, rfl, rfl, rfl, rfl, rfl, rfl, rfl, rfl, rfl, rfl, rfl, rfl, trivial⟩⟩
   ·skip
    have hk14 := hb12; try simp only [zz1, zz2, zz3, zz4, zz5, zz7, zz8, zz9, zza, zzb] at hk14
    refine g_off HE rfl rfl rfl hb12 ?_; clear HE; intro a HE
    refine g_off HE rfl rfl rfl hb12 ?_; clear HE; intro a HE
    refine g_off HE rfl rfl rfl hb12 ?_; clear HE; intro a HE
    refine o_pick_f HE rfl rfl hb12 rfl ?_; clear HE; intro a HE
    exact ⟨rfl, HE.cut ⟨by rw [hb12]; rfl, rfl, rfl, rfl, rfl, rfl, rfl, rfl, rfl, rfl, rfl, rfl, rfl, rfl, rfl, rfl, rfl, rfl, rfl, rfl, trivial⟩⟩
  clear HE; rintro a _ ⟨rfl, HE⟩
  refine hK _ _ ?_; clear hK K
  refine cond HE rfl (fun h16 => ?_) (fun h16 => ?_)
  ·have h16r := h16; try simp only [zz1, zz2, zz3, zz4, zz5, zz6, zz7, zz8, zz9, zza, zzb] at h16
   refine wp_seq_k (fun K hK => ?_); refine wp_region_lit ?_
   refine o_move HE rfl rfl ?_; clear HE; intro a HE
   have hi17 : (1 : Int).toNat < l.length := by omega
   obtain ⟨eb17, eo17, hA17, el17⟩ := Rd.at hR (List.getElem?_eq_getElem hi17); cases hA17
   obtain ⟨x17, ex17⟩ : ∃ x, l[(1 : Int).toNat] = x := ⟨_, rfl⟩; rw [ex17] at el17
   have el17 := kof_open (enc := fun l => str l) el17
   refine o_ixL HE rfl rfl rfl T.l29 ⟨by omega, by omega⟩ ?_; clear HE; intro a HE
   refine o_ldI HE rfl HS rfl T.s9 el17 (j := 0) rfl rfl ?_; clear HE; intro a HE
   have hxl17 : x17.length ≤ 4294967280 := by rw [← ex17]; exact hls _ (List.getElem_mem _)
   refine o_callP HE rfl HS rfl rfl T.g84 (c_count x17 16 _ _ HS.sub (by first | assumption | decide) (by first | omega | (simp; done) | (simp; omega))) ?_
   clear HE HS; rintro _ w a HS rfl HE
   refine o_move HE rfl rfl ?_; clear HE; intro a HE
   refine o_extract HE rfl rfl rfl ?_; clear HE; intro a HE
   refine o_extract HE rfl rfl rfl ?_; clear HE; intro a HE
   refine o_assign HE rfl rfl ?_; clear HE; intro a HE
   refine o_assign HE rfl rfl ?_; clear HE; intro a HE
   refine hK _ _ ?_; clear hK K
   refine wp_seq_k (fun K hK => ?_); refine wp_region_lit ?_
   refine o_move HE rfl rfl ?_; clear HE; intro a HE
   refine o_move HE rfl rfl ?_; clear HE; intro a HE
   refine cutL 3 (fun a' w' => w = w' ∧ Env a' 63 [] [(41, .bool (((wayS x7).2) && (decide ((erv (countS x17 16)) = 0)))), (0, .pointer (some ⟨bp, 0, none⟩)), (1, .slice (some ⟨eb7, eo7, none⟩) l.length c), (2, .pointer (some ⟨bd, 0, none⟩)), (5, .bool false), (6, .int .i64 ((wayS x7).1)), (7, .bool ((wayS x7).2)), (8, .pointer (some ⟨B8, 0, none⟩)), (9, .int .i64 (okv (countS x17 16))), (11, .slice (some ⟨eb7, eo7, none⟩) l.length c), (12, .int .i64 (l.length : Int)), (13, .bool (decide ((l.length : Int) = 0))), (14, .tuple #[.int .i64 ((wayS x7).1), .bool ((wayS x7).2)]), (15, .slice (some ⟨eb7, eo7, none⟩) l.length c), (16, .pointer (some ⟨eb7, eo7 + (0 : Int).toNat * 1, none⟩)), (17, str x7), (18, .tuple #[.int .i64 ((wayS x7).1), .bool ((wayS x7).2)]), (19, .int .i64 ((wayS x7).1)), (20, .bool ((wayS x7).2)), (21, .int .i64 ((wayS x7).1)), (22, .agg #[.int .i64 ((wayS x7).1), .int .i64 0]), (29, .bool ((decide (((wayS x7).1) = 2)) && (decide ((l.length : Int) = 2)))), (30, .tuple #[.int .i64 (okv (countS x17 16)), .int .i64 (erv (countS x17 16))]), (31, .slice (some ⟨eb7, eo7, none⟩) l.length c), (32, .pointer (some ⟨eb7, eo7 + (1 : Int).toNat * 1, none⟩)), (33, str x17), (34, .tuple #[.int .i64 (okv (countS x17 16)), .int .i64 (erv (countS x17 16))]), (35, .int .i64 (okv (countS x17 16))), (36, .int .i64 (erv (countS x17 16)))]) ?_ ?_
   ·refine (Bool.eq_false_or_eq_true ((wayS x7).2)).elim (fun hb19 => ?_) (fun hb19 => ?_)
    ·skip
     have hk20 := hb19; try simp only [zz1, zz2, zz3, zz4, zz5, zz7, zz8, zz9, zza, zzb] at hk20
     refine op_on HE rfl rfl hb19 ?_
     refine o_move HE rfl rfl ?_; clear HE; intro a HE
     refine op_on HE rfl rfl hb19 ?_
     refine o_eqI HE rfl rfl rfl ?_; clear HE; intro a HE
     refine o_pick_t HE rfl rfl hb19 rfl ?_; clear HE; intro a HE
     exact ⟨rfl, HE.cut ⟨by rw [hb19]; rfl, rfl, rfl, rfl, rfl, rfl, rfl, rfl, rfl, rfl, rfl, rfl, rfl, rfl, rfl, rfl, rfl, rfl, rfl, rfl, rfl, rfl, rfl, rfl, rfl, rfl, rfl, rfl, rfl, trivial⟩⟩
    ·skip
     have hk21 := hb19; try simp only [zz1, zz2, zz3, zz4, zz5, zz7, zz8, zz9, zza, zzb] at hk21
     refine g_off HE rfl rfl rfl hb19 ?_; clear HE; intro a HE
     refine g_off HE rfl rfl rfl hb19 ?_; clear HE; intro a HE
     refine o_pick_f HE rfl rfl hb19 rfl ?_; clear HE; intro a HE
     exact ⟨rfl, HE.cut ⟨by rw [hb19]; rfl, rfl, rfl, rfl, rfl, rfl, rfl, rfl, rfl, rfl, rfl, rfl, rfl, rfl, rfl, rfl, rfl, rfl, rfl, rfl, rfl, rfl, rfl, rfl, rfl, rfl, rfl, rfl, rfl, trivial⟩⟩
   clear HE; rintro a _ ⟨rfl, HE⟩
   refine o_assign HE rfl rfl ?_; clear HE; intro a HE
   refine hK _ _ ?_; clear hK K
   replace HS := HS.conv (L2 := [(0, _), (1, _)]) (.here .here) ⟨rfl, rfl, trivial⟩
   have HE0 := HE
   have hR23 := Rd.take hR (1 : Int).toNat
   replace HE := HE.cut (L' := [(0, .pointer (some ⟨bp, 0, none⟩)), (2, .pointer (some ⟨bd, 0, none⟩)), (5, .bool false), (6, .int .i64 ((wayS x7).1)), (7, .bool (((wayS x7).2) && (decide ((erv (countS x17 16)) = 0)))), (8, .pointer (some ⟨B8, 0, none⟩)), (9, .int .i64 (okv (countS x17 16))), (11, .slice (some ⟨eb7, eo7, none⟩) l.length c), (12, .int .i64 (l.length : Int)), (13, .bool (decide ((l.length : Int) = 0))), (14, .tuple #[.int .i64 ((wayS x7).1), .bool ((wayS x7).2)]), (15, .slice (some ⟨eb7, eo7, none⟩) l.length c), (16, .pointer (some ⟨eb7, eo7 + (0 : Int).toNat * 1, none⟩)), (17, str x7), (18, .tuple #[.int .i64 ((wayS x7).1), .bool ((wayS x7).2)]), (19, .int .i64 ((wayS x7).1)), (20, .bool ((wayS x7).2)), (21, .int .i64 ((wayS x7).1)), (22, .agg #[.int .i64 ((wayS x7).1), .int .i64 0]), (29, .bool ((decide (((wayS x7).1) = 2)) && (decide ((l.length : Int) = 2)))), (30, .tuple #[.int .i64 (okv (countS x17 16)), .int .i64 (erv (countS x17 16))]), (31, .slice (some ⟨eb7, eo7, none⟩) l.length c), (32, .pointer (some ⟨eb7, eo7 + (1 : Int).toNat * 1, none⟩)), (33, str x17), (34, .tuple #[.int .i64 (okv (countS x17 16)), .int .i64 (erv (countS x17 16))]), (35, .int .i64 (okv (countS x17 16))), (36, .int .i64 (erv (countS x17 16))), (41, .bool (((wayS x7).2) && (decide ((erv (countS x17 16)) = 0))))]) ⟨rfl, rfl, rfl, rfl, rfl, rfl, rfl, rfl, rfl, rfl, rfl, rfl, rfl, rfl, rfl, rfl, rfl, rfl, rfl, rfl, rfl, rfl, rfl, rfl, rfl, rfl, rfl, rfl, trivial⟩
   refine drawnF (fun f G' w => Heap.le G G' ∧ St w0 G [bp] G' w [[(B8, Cells 23 [(0, .int .i64 ((wayS x7).1)), (1, bif f 4 then .int .i64 (okv (countS x17 16)) else .int .i64 0)])], [(bp, Cells 26 [(0, .int .i64 P.r0.way), (1, .int .i64 P.r0.size), (2, .int .i64 P.r1.way), (3, .int .i64 P.r1.size), (4, .int .i64 P.r2.way), (5, .int .i64 P.r2.size), (6, .int .i64 P.r3.way), (7, .int .i64 P.r3.size), (8, .int .i64 P.r4.way), (9, .int .i64 P.r4.size), (10, .int .i64 P.time), (11, .int .i64 P.note), (12, .bool P.loose), (13, .bool P.force)])]]) [fun v _ => v = .int .i64 (okv (countS x17 16)), fun v _ => v = .slice (some ⟨eb7, eo7, none⟩) l.length c, fun v _ => v = .slice (some ⟨eb7, eo7, none⟩) (((l).take (1 : Int).toNat).length) c, fun v _ => v = .pointer (some ⟨B8, 1, none⟩), fun _ _ => True, fun v _ => v = .slice (some ⟨eb7, eo7, none⟩) (((l).take (1 : Int).toNat).length) c] [(1, .slice (some ⟨eb7, eo7, none⟩) l.length c, 5)] T.mix rfl HE ⟨Heap.le.refl _, HS.drew⟩ rfl (fun t v k h => by simp only [List.mem_cons, Prod.mk.injEq, List.not_mem_nil, or_false] at h; obtain ⟨rfl, rfl, rfl⟩ := h; exact ⟨HE0.get _ _ rfl, rfl⟩) (AllM.get ⟨fun _ _ _ _ h => h, fun _ _ _ _ h => h, fun _ _ _ _ h => h, fun _ _ _ _ h => h, fun _ _ _ _ h => h, fun _ _ _ _ h => h, trivial⟩) ⟨?_, ?_, ?_, ?_, ?_, ?_, trivial⟩ ?_
   ·intro a w G1 f hcl hfi hon hW HE hp hO; obtain ⟨hl, HS⟩ := hW
    refine o_move HE rfl rfl ?_; clear HE; intro a HE
    exact ⟨_, _, Heap.le.refl _, ⟨hl, HS⟩, fun d hd => (by cases hd; exact HE.get _ _ rfl), HE.defers, rfl⟩
   ·intro a w G1 f hcl hfi hon hW HE hp hO; obtain ⟨hl, HS⟩ := hW
    have hfk : f 5 = false := by
     cases hq : f 5 with
     | false => rfl
     | true =>
      have hq := hcl 5 _ rfl hq 2 rfl
      have hq := hcl 2 _ rfl hq 1 rfl
      rw [hfi] at hq; cases hq
    replace HE := HE.add (hO 1 (.slice (some ⟨eb7, eo7, none⟩) l.length c) 5 (by simp) hfk)
    refine o_move HE rfl rfl ?_; clear HE; intro a HE
    exact ⟨_, _, Heap.le.refl _, ⟨hl, HS⟩, fun d hd => (by cases hd; exact HE.get _ _ rfl), HE.defers, rfl⟩
   ·intro a w G1 f hcl hfi hon hW HE hp hO; obtain ⟨hl, HS⟩ := hW
    obtain ⟨_, e1, rfl⟩ := hp 1 43 _ (hon 1 rfl) rfl rfl; replace HE := HE.add e1
    refine o_sliceRHi (K := Knd.s) (k := (1 : Int)) HE rfl rfl rfl T.l29 hR rfl (by omega) (by omega) ?_; clear HE; intro a _ _ HE
    exact ⟨_, _, Heap.le.refl _, ⟨hl, HS⟩, fun d hd => (by cases hd; exact HE.get _ _ rfl), HE.defers, rfl⟩
   ·intro a w G1 f hcl hfi hon hW HE hp hO; obtain ⟨hl, HS⟩ := hW
    refine o_fld HE rfl rfl T.f23_1 ?_; clear HE; intro a HE
    exact ⟨_, _, Heap.le.refl _, ⟨hl, HS⟩, fun d hd => (by cases hd; exact HE.get _ _ rfl), HE.defers, rfl⟩
   ·intro a w G1 f hcl hfi hon hW HE hp hO; obtain ⟨hl, HS⟩ := hW
    obtain ⟨_, e3, rfl⟩ := hp 3 45 _ (hon 3 rfl) rfl rfl; replace HE := HE.add e3
    obtain ⟨_, e0, rfl⟩ := hp 0 42 _ (hon 0 rfl) rfl rfl; replace HE := HE.add e0
    refine o_st HE HS rfl rfl rfl T.s3 (.here .here) rfl ?_; clear HS; intro w HS
    replace HS := HS.conv (L2 := [(0, _), (1, _)]) (.here .here) ⟨rfl, rfl, trivial⟩
    exact ⟨.bool true, _, Heap.le.refl _, ⟨hl, HS⟩, fun d hd => (by cases hd), HE.defers, trivial⟩
   ·intro a w G1 f hcl hfi hon hW HE hp hO; obtain ⟨hl, HS⟩ := hW
    obtain ⟨_, e2, rfl⟩ := hp 2 44 _ (hon 2 rfl) rfl rfl; replace HE := HE.add e2
    refine o_assign HE rfl rfl ?_; clear HE; intro a HE
    exact ⟨_, _, Heap.le.refl _, ⟨hl, HS⟩, fun d hd => (by cases hd; exact HE.get _ _ rfl), HE.defers, rfl⟩
   clear HE HS; intro a w G24 f hle25 hall HW HE hp; obtain ⟨_, HS⟩ := HW
   have hfw4 := hall 4 (by decide)
   simp only [hfw4, cond_true] at HS
   replace hR := hR.le hle25
   replace hCd := hCd.le hle25
   replace hgw := hgw.le hle25
   replace hR23 := hR23.le hle25
   obtain ⟨_, e5, rfl⟩ := hp 5 1 _ rfl rfl; replace HE := HE.add e5
   clear hp hall
   refine hK10 _ _ ?_; clear hK10
   refine wp_seq_k (fun K27 hK26 => ?_)
   replace HE := HE.cut (L' := [(0, .pointer (some ⟨bp, 0, none⟩)), (1, .slice (some ⟨eb7, eo7, none⟩) (((l).take (1 : Int).toNat).length) c), (2, .pointer (some ⟨bd, 0, none⟩)), (5, .bool false), (6, .int .i64 ((wayS x7).1)), (7, .bool (((wayS x7).2) && (decide ((erv (countS x17 16)) = 0)))), (8, .pointer (some ⟨B8, 0, none⟩)), (9, .int .i64 (okv (countS x17 16))), (11, .slice (some ⟨eb7, eo7, none⟩) l.length c), (12, .int .i64 (l.length : Int)), (13, .bool (decide ((l.length : Int) = 0))), (14, .tuple #[.int .i64 ((wayS x7).1), .bool ((wayS x7).2)]), (15, .slice (some ⟨eb7, eo7, none⟩) l.length c), (16, .pointer (some ⟨eb7, eo7 + (0 : Int).toNat * 1, none⟩)), (17, str x7), (18, .tuple #[.int .i64 ((wayS x7).1), .bool ((wayS x7).2)]), (19, .int .i64 ((wayS x7).1)), (20, .bool ((wayS x7).2)), (21, .int .i64 ((wayS x7).1)), (22, .agg #[.int .i64 ((wayS x7).1), .int .i64 0]), (29, .bool ((decide (((wayS x7).1) = 2)) && (decide ((l.length : Int) = 2)))), (30, .tuple #[.int .i64 (okv (countS x17 16)), .int .i64 (erv (countS x17 16))]), (31, .slice (some ⟨eb7, eo7, none⟩) l.length c), (32, .pointer (some ⟨eb7, eo7 + (1 : Int).toNat * 1, none⟩)), (33, str x17), (34, .tuple #[.int .i64 (okv (countS x17 16)), .int .i64 (erv (countS x17 16))]), (35, .int .i64 (okv (countS x17 16))), (36, .int .i64 (erv (countS x17 16))), (41, .bool (((wayS x7).2) && (decide ((erv (countS x17 16)) = 0))))]) ⟨rfl, rfl, rfl, rfl, rfl, rfl, rfl, rfl, rfl, rfl, rfl, rfl, rfl, rfl, rfl, rfl, rfl, rfl, rfl, rfl, rfl, rfl, rfl, rfl, rfl, rfl, rfl, rfl, rfl, trivial⟩
   refine drawnF (fun f G' w => Heap.le G24 G' ∧ St w0 G [bp] G' w [[(B8, Cells 23 [(0, .int .i64 ((wayS x7).1)), (1, .int .i64 (okv (countS x17 16)))])], [(bp, Cells 26 [(0, .int .i64 P.r0.way), (1, .int .i64 P.r0.size), (2, bif f 6 then .int .i64 ((wayS x7).1) else .int .i64 P.r1.way), (3, bif f 6 then .int .i64 (okv (countS x17 16)) else .int .i64 P.r1.size), (4, .int .i64 P.r2.way), (5, .int .i64 P.r2.size), (6, .int .i64 P.r3.way), (7, .int .i64 P.r3.size), (8, .int .i64 P.r4.way), (9, .int .i64 P.r4.size), (10, .int .i64 P.time), (11, .int .i64 P.note), (12, .bool P.loose), (13, .bool P.force)])]]) [fun v _ => v = .pointer (some ⟨bp, 0, none⟩), fun v _ => v = .int .i64 1, fun v _ => v = .agg #[.int .i64 ((wayS x7).1), .int .i64 (okv (countS x17 16))], fun v _ => v = .pointer (some ⟨bp, 0, none⟩), fun v _ => v = .pointer (some ⟨bp, 0, none⟩), fun v _ => v = .pointer (some ⟨bp, 2, none⟩), fun _ _ => True] [] T.mix rfl HE ⟨Heap.le.refl _, HS.drew⟩ rfl (by simp) (AllM.get ⟨fun _ _ _ _ h => h, fun _ _ _ _ h => h, fun _ _ _ _ h => h, fun _ _ _ _ h => h, fun _ _ _ _ h => h, fun _ _ _ _ h => h, fun _ _ _ _ h => h, trivial⟩) ⟨?_, ?_, ?_, ?_, ?_, ?_, ?_, trivial⟩ ?_
   ·intro a w G1 f hcl hfi hon hW HE hp hO; obtain ⟨hl, HS⟩ := hW
    refine o_move HE rfl rfl ?_; clear HE; intro a HE
    exact ⟨_, _, Heap.le.refl _, ⟨hl, HS⟩, fun d hd => (by cases hd; exact HE.get _ _ rfl), HE.defers, rfl⟩
   ·intro a w G1 f hcl hfi hon hW HE hp hO; obtain ⟨hl, HS⟩ := hW
    refine o_ldI HE rfl HS rfl T.s3 (hCd.le hl) (j := 0) rfl rfl ?_; clear HE; intro a HE
    exact ⟨_, _, Heap.le.refl _, ⟨hl, HS⟩, fun d hd => (by cases hd; exact HE.get _ _ rfl), HE.defers, rfl⟩
   ·intro a w G1 f hcl hfi hon hW HE hp hO; obtain ⟨hl, HS⟩ := hW
    refine o_ldA HE rfl HS rfl T.a23 (.here .here) rfl ?_; clear HE; intro a HE
    exact ⟨_, _, Heap.le.refl _, ⟨hl, HS⟩, fun d hd => (by cases hd; exact HE.get _ _ rfl), HE.defers, rfl⟩
   ·intro a w G1 f hcl hfi hon hW HE hp hO; obtain ⟨hl, HS⟩ := hW
    obtain ⟨_, e0, rfl⟩ := hp 0 46 _ (hon 0 rfl) rfl rfl; replace HE := HE.add e0
    refine o_nil HE rfl rfl ?_; clear HE; intro a HE
    exact ⟨_, _, Heap.le.refl _, ⟨hl, HS⟩, fun d hd => (by cases hd; exact HE.get _ _ rfl), HE.defers, rfl⟩
   ·intro a w G1 f hcl hfi hon hW HE hp hO; obtain ⟨hl, HS⟩ := hW
    obtain ⟨_, e3, rfl⟩ := hp 3 49 _ (hon 3 rfl) rfl rfl; replace HE := HE.add e3
    refine o_fld HE rfl rfl T.f26_0 ?_; clear HE; intro a HE
    exact ⟨_, _, Heap.le.refl _, ⟨hl, HS⟩, fun d hd => (by cases hd; exact HE.get _ _ rfl), HE.defers, rfl⟩
   ·intro a w G1 f hcl hfi hon hW HE hp hO; obtain ⟨hl, HS⟩ := hW
    obtain ⟨_, e4, rfl⟩ := hp 4 50 _ (hon 4 rfl) rfl rfl; replace HE := HE.add e4
    obtain ⟨_, e1, rfl⟩ := hp 1 47 _ (hon 1 rfl) rfl rfl; replace HE := HE.add e1
    refine o_ixA HE rfl rfl rfl T.r24 (by decide) ?_; clear HE; intro a HE
    exact ⟨_, _, Heap.le.refl _, ⟨hl, HS⟩, fun d hd => (by cases hd; exact HE.get _ _ rfl), HE.defers, rfl⟩
   ·intro a w G1 f hcl hfi hon hW HE hp hO; obtain ⟨hl, HS⟩ := hW
    obtain ⟨_, e5, rfl⟩ := hp 5 51 _ (hon 5 rfl) rfl rfl; replace HE := HE.add e5
    obtain ⟨_, e2, rfl⟩ := hp 2 48 _ (hon 2 rfl) rfl rfl; replace HE := HE.add e2
    refine o_stA HE HS rfl rfl rfl T.a23 (.there (.here .here)) rfl ?_; clear HS; intro w HS
    replace HS := HS.conv (L2 := [(0, _), (1, _), (2, _), (3, _), (4, _), (5, _), (6, _), (7, _), (8, _), (9, _), (10, _), (11, _), (12, _), (13, _)]) (.there (.here .here)) ⟨rfl, rfl, rfl, rfl, rfl, rfl, rfl, rfl, rfl, rfl, rfl, rfl, rfl, rfl, trivial⟩
    exact ⟨.bool true, _, Heap.le.refl _, ⟨hl, HS⟩, fun d hd => (by cases hd), HE.defers, trivial⟩
   clear HE HS; intro a w G28 f hle29 hall HW HE hp; obtain ⟨_, HS⟩ := HW
   have hfw6 := hall 6 (by decide)
   simp only [hfw6, cond_true] at HS
   replace hR := hR.le hle29
   replace hCd := hCd.le hle29
   replace hgw := hgw.le hle29
   replace hR23 := hR23.le hle29
   clear hp hall
   refine hK26 _ _ ?_; clear hK26
   refine wp_seq_k (fun K hK => ?_); refine wp_region_lit ?_
   refine o_move HE rfl rfl ?_; clear HE; intro a HE
   refine o_move HE rfl rfl ?_; clear HE; intro a HE
   refine cutL 4 (fun a' w' => w = w' ∧ Env a' 63 [] [(57, .bool ((((wayS x7).2) && (decide ((erv (countS x17 16)) = 0))) && (decide ((((l).take (1 : Int).toNat).length : Int) = 1)))), (0, .pointer (some ⟨bp, 0, none⟩)), (1, .slice (some ⟨eb7, eo7, none⟩) (((l).take (1 : Int).toNat).length) c), (2, .pointer (some ⟨bd, 0, none⟩)), (5, .bool false), (6, .int .i64 ((wayS x7).1)), (7, .bool (((wayS x7).2) && (decide ((erv (countS x17 16)) = 0)))), (8, .pointer (some ⟨B8, 0, none⟩)), (9, .int .i64 (okv (countS x17 16))), (11, .slice (some ⟨eb7, eo7, none⟩) l.length c), (12, .int .i64 (l.length : Int)), (13, .bool (decide ((l.length : Int) = 0))), (14, .tuple #[.int .i64 ((wayS x7).1), .bool ((wayS x7).2)]), (15, .slice (some ⟨eb7, eo7, none⟩) l.length c), (16, .pointer (some ⟨eb7, eo7 + (0 : Int).toNat * 1, none⟩)), (17, str x7), (18, .tuple #[.int .i64 ((wayS x7).1), .bool ((wayS x7).2)]), (19, .int .i64 ((wayS x7).1)), (20, .bool ((wayS x7).2)), (21, .int .i64 ((wayS x7).1)), (22, .agg #[.int .i64 ((wayS x7).1), .int .i64 0]), (29, .bool ((decide (((wayS x7).1) = 2)) && (decide ((l.length : Int) = 2)))), (30, .tuple #[.int .i64 (okv (countS x17 16)), .int .i64 (erv (countS x17 16))]), (31, .slice (some ⟨eb7, eo7, none⟩) l.length c), (32, .pointer (some ⟨eb7, eo7 + (1 : Int).toNat * 1, none⟩)), (33, str x17), (34, .tuple #[.int .i64 (okv (countS x17 16)), .int .i64 (erv (countS x17 16))]), (35, .int .i64 (okv (countS x17 16))), (36, .int .i64 (erv (countS x17 16))), (41, .bool (((wayS x7).2) && (decide ((erv (countS x17 16)) = 0))))]) ?_ ?_
   ·refine (Bool.eq_false_or_eq_true (((wayS x7).2) && (decide ((erv (countS x17 16)) = 0)))).elim (fun hb30 => ?_) (fun hb30 => ?_)
    ·skip
     have hk31 := hb30; try simp only [zz1, zz2, zz3, zz4, zz5, zz7, zz8, zz9, zza, zzb] at hk31
     refine op_on HE rfl rfl hb30 ?_
     refine o_move HE rfl rfl ?_; clear HE; intro a HE
     refine op_on HE rfl rfl hb30 ?_
     refine o_lenL HE rfl rfl Tryd.underlying29 ?_; clear HE; intro a HE
     refine op_on HE rfl rfl hb30 ?_
     refine o_eqI HE rfl rfl rfl ?_; clear HE; intro a HE
     refine o_pick_t HE rfl rfl hb30 rfl ?_; clear HE; intro a HE
     exact ⟨rfl, HE.cut ⟨by rw [hb30]; rfl, rfl, rfl, rfl, rfl, rfl, rfl, rfl, rfl, rfl, rfl, rfl, rfl, rfl, rfl, rfl, rfl, rfl, rfl, rfl, rfl, rfl, rfl, rfl, rfl, rfl, rfl, rfl, rfl, rfl, trivial⟩⟩
    ·skip
     have hk32 := hb30; try simp only [zz1, zz2, zz3, zz4, zz5, zz7, zz8, zz9, zza, zzb] at hk32
     refine g_off HE rfl rfl rfl hb30 ?_; clear HE; intro a HE
     refine g_off HE rfl rfl rfl hb30 ?_; clear HE; intro a HE
     refine g_off HE rfl rfl rfl hb30 ?_; clear HE; intro a HE
     refine o_pick_f HE rfl rfl hb30 rfl ?_; clear HE; intro a HE
     exact ⟨rfl, HE.cut ⟨by rw [hb30]; rfl, rfl, rfl, rfl, rfl, rfl, rfl, rfl, rfl, rfl, rfl, rfl, rfl, rfl, rfl, rfl, rfl, rfl, rfl, rfl, rfl, rfl, rfl, rfl, rfl, rfl, rfl, rfl, rfl, rfl, trivial⟩⟩
   clear HE; rintro a _ ⟨rfl, HE⟩
   refine o_move HE rfl rfl ?_; clear HE; intro a HE
   obtain ⟨M0, hM0, HS⟩ : ∃ M0, M0 = _ ∧ St w0 G [bp] G28 _ M0 := ⟨_, rfl, HS⟩
   refine cutL 4 (fun a' w' => St w0 G [bp] G28 w' M0 ∧ Env a' 63 [] [(62, .bool (((((wayS x7).2) && (decide ((erv (countS x17 16)) = 0))) && (decide ((((l).take (1 : Int).toNat).length : Int) = 1))) && (ruledB 1 ⟨(wayS x7).1, okv (countS x17 16)⟩))), (0, .pointer (some ⟨bp, 0, none⟩)), (1, .slice (some ⟨eb7, eo7, none⟩) (((l).take (1 : Int).toNat).length) c), (2, .pointer (some ⟨bd, 0, none⟩)), (5, .bool false), (6, .int .i64 ((wayS x7).1)), (7, .bool (((wayS x7).2) && (decide ((erv (countS x17 16)) = 0)))), (8, .pointer (some ⟨B8, 0, none⟩)), (9, .int .i64 (okv (countS x17 16))), (11, .slice (some ⟨eb7, eo7, none⟩) l.length c), (12, .int .i64 (l.length : Int)), (13, .bool (decide ((l.length : Int) = 0))), (14, .tuple #[.int .i64 ((wayS x7).1), .bool ((wayS x7).2)]), (15, .slice (some ⟨eb7, eo7, none⟩) l.length c), (16, .pointer (some ⟨eb7, eo7 + (0 : Int).toNat * 1, none⟩)), (17, str x7), (18, .tuple #[.int .i64 ((wayS x7).1), .bool ((wayS x7).2)]), (19, .int .i64 ((wayS x7).1)), (20, .bool ((wayS x7).2)), (21, .int .i64 ((wayS x7).1)), (22, .agg #[.int .i64 ((wayS x7).1), .int .i64 0]), (29, .bool ((decide (((wayS x7).1) = 2)) && (decide ((l.length : Int) = 2)))), (30, .tuple #[.int .i64 (okv (countS x17 16)), .int .i64 (erv (countS x17 16))]), (31, .slice (some ⟨eb7, eo7, none⟩) l.length c), (32, .pointer (some ⟨eb7, eo7 + (1 : Int).toNat * 1, none⟩)), (33, str x17), (34, .tuple #[.int .i64 (okv (countS x17 16)), .int .i64 (erv (countS x17 16))]), (35, .int .i64 (okv (countS x17 16))), (36, .int .i64 (erv (countS x17 16))), (41, .bool (((wayS x7).2) && (decide ((erv (countS x17 16)) = 0))))]) ?_ ?_
   ·refine (Bool.eq_false_or_eq_true ((((wayS x7).2) && (decide ((erv (countS x17 16)) = 0))) && (decide ((((l).take (1 : Int).toNat).length : Int) = 1)))).elim (fun hb33 => ?_) (fun hb33 => ?_)
    ·subst hM0
     have hk34 := hb33; try simp only [zz1, zz2, zz3, zz4, zz5, zz7, zz8, zz9, zza, zzb] at hk34
     refine op_on HE rfl rfl hb33 ?_
     refine o_ldI HE rfl HS rfl T.s3 hCd (j := 0) rfl rfl ?_; clear HE; intro a HE
     refine op_on HE rfl rfl hb33 ?_
     refine o_ldA HE rfl HS rfl T.a23 (.here .here) rfl ?_; clear HE; intro a HE
     refine op_on HE rfl rfl hb33 ?_
     refine o_callP HE rfl HS rfl rfl T.g41 (c_ruled 1 (⟨(wayS x7).1, okv (countS x17 16)⟩ : Rul) _ _ HS.sub) ?_
     clear HE HS; rintro _ w a HS rfl HE
     refine o_pick_t HE rfl rfl hb33 rfl ?_; clear HE; intro a HE
     exact ⟨HS, HE.cut ⟨by rw [hb33]; rfl, rfl, rfl, rfl, rfl, rfl, rfl, rfl, rfl, rfl, rfl, rfl, rfl, rfl, rfl, rfl, rfl, rfl, rfl, rfl, rfl, rfl, rfl, rfl, rfl, rfl, rfl, rfl, rfl, rfl, trivial⟩⟩
    ·subst hM0
     have hk35 := hb33; try simp only [zz1, zz2, zz3, zz4, zz5, zz7, zz8, zz9, zza, zzb] at hk35
     refine g_off HE rfl rfl rfl hb33 ?_; clear HE; intro a HE
     refine g_off HE rfl rfl rfl hb33 ?_; clear HE; intro a HE
     refine g_off HE rfl rfl rfl hb33 ?_; clear HE; intro a HE
     refine o_pick_f HE rfl rfl hb33 rfl ?_; clear HE; intro a HE
     exact ⟨HS, HE.cut ⟨by rw [hb33]; rfl, rfl, rfl, rfl, rfl, rfl, rfl, rfl, rfl, rfl, rfl, rfl, rfl, rfl, rfl, rfl, rfl, rfl, rfl, rfl, rfl, rfl, rfl, rfl, rfl, rfl, rfl, rfl, rfl, rfl, trivial⟩⟩
   clear HE HS; rintro a w ⟨HS, HE⟩; subst hM0
   refine o_assign HE rfl rfl ?_; clear HE; intro a HE
   refine hK _ _ ?_; clear hK K
   refine wp_ret ?_
   show Q .ret _ _
   refine ret hQ HE rfl (HE.res rfl .nil) ?_
   replace HS := HS.drop (M' := [_]) (sub_drop (sub_keep sub_nil))
   have e0 : w0S l = wayS x7 := by unfold w0S; rw [get0 ex7]
   have e1 := get1 ex17
   have he : ruleS 1 P l = ((⟨⟨P.r0.way, P.r0.size⟩, ⟨(wayS x7).1, okv (countS x17 16)⟩, ⟨P.r2.way, P.r2.size⟩, ⟨P.r3.way, P.r3.size⟩, ⟨P.r4.way, P.r4.size⟩, P.time, P.note, P.loose, P.force⟩ : Pol), ((((wayS x7).2) && (decide ((erv (countS x17 16)) = 0))) && (decide ((((l).take (1 : Int).toNat).length : Int) = 1))) && (ruledB 1 ⟨(wayS x7).1, okv (countS x17 16)⟩)) := by
    unfold ruleS
    rw [if_neg (by omega), if_pos (by rw [e0]; omega), e0, e1]
    rw [show decide (((l.take (1 : Int).toNat).length : Int) = 1) = true from decide_eq_true (by rw [List.length_take]; omega), Bool.and_true]
    rfl
   exact ⟨_, [(bp, Cells 26 [(0, .int .i64 P.r0.way), (1, .int .i64 P.r0.size), (2, .int .i64 ((wayS x7).1)), (3, .int .i64 (okv (countS x17 16))), (4, .int .i64 P.r2.way), (5, .int .i64 P.r2.size), (6, .int .i64 P.r3.way), (7, .int .i64 P.r3.size), (8, .int .i64 P.r4.way), (9, .int .i64 P.r4.size), (10, .int .i64 P.time), (11, .int .i64 P.note), (12, .bool P.loose), (13, .bool P.force)])], HS.stop (by simp), by rw [he] <;> rfl, by rw [he] <;> rfl⟩
  ·have h16r := h16; try simp only [zz1, zz2, zz3, zz4, zz5, zz6, zz7, zz8, zz9, zza, zzb] at h16
   refine wp_skip ?_
   refine hK10 _ _ ?_; clear hK10
   refine wp_seq_k (fun K38 hK37 => ?_)
   replace HS := HS.conv (L2 := [(0, _), (1, _)]) (.here .here) ⟨rfl, rfl, trivial⟩
   replace HE := HE.cut (L' := [(0, .pointer (some ⟨bp, 0, none⟩)), (1, .slice (some ⟨eb7, eo7, none⟩) l.length c), (2, .pointer (some ⟨bd, 0, none⟩)), (5, .bool false), (6, .int .i64 ((wayS x7).1)), (7, .bool ((wayS x7).2)), (8, .pointer (some ⟨B8, 0, none⟩)), (11, .slice (some ⟨eb7, eo7, none⟩) l.length c), (12, .int .i64 (l.length : Int)), (13, .bool (decide ((l.length : Int) = 0))), (14, .tuple #[.int .i64 ((wayS x7).1), .bool ((wayS x7).2)]), (15, .slice (some ⟨eb7, eo7, none⟩) l.length c), (16, .pointer (some ⟨eb7, eo7 + (0 : Int).toNat * 1, none⟩)), (17, str x7), (18, .tuple #[.int .i64 ((wayS x7).1), .bool ((wayS x7).2)]), (19, .int .i64 ((wayS x7).1)), (20, .bool ((wayS x7).2)), (21, .int .i64 ((wayS x7).1)), (22, .agg #[.int .i64 ((wayS x7).1), .int .i64 0]), (29, .bool ((decide (((wayS x7).1) = 2)) && (decide ((l.length : Int) = 2))))]) ⟨rfl, rfl, rfl, rfl, rfl, rfl, rfl, rfl, rfl, rfl, rfl, rfl, rfl, rfl, rfl, rfl, rfl, rfl, rfl, rfl, trivial⟩
   refine drawnF (fun f G' w => Heap.le G G' ∧ St w0 G [bp] G' w [[(B8, Cells 23 [(0, .int .i64 ((wayS x7).1)), (1, .int .i64 0)])], [(bp, Cells 26 [(0, .int .i64 P.r0.way), (1, .int .i64 P.r0.size), (2, bif f 6 then .int .i64 ((wayS x7).1) else .int .i64 P.r1.way), (3, bif f 6 then .int .i64 0 else .int .i64 P.r1.size), (4, .int .i64 P.r2.way), (5, .int .i64 P.r2.size), (6, .int .i64 P.r3.way), (7, .int .i64 P.r3.size), (8, .int .i64 P.r4.way), (9, .int .i64 P.r4.size), (10, .int .i64 P.time), (11, .int .i64 P.note), (12, .bool P.loose), (13, .bool P.force)])]]) [fun v _ => v = .pointer (some ⟨bp, 0, none⟩), fun v _ => v = .int .i64 1, fun v _ => v = .agg #[.int .i64 ((wayS x7).1), .int .i64 0], fun v _ => v = .pointer (some ⟨bp, 0, none⟩), fun v _ => v = .pointer (some ⟨bp, 0, none⟩), fun v _ => v = .pointer (some ⟨bp, 2, none⟩), fun _ _ => True] [] T.mix rfl HE ⟨Heap.le.refl _, HS.drew⟩ rfl (by simp) (AllM.get ⟨fun _ _ _ _ h => h, fun _ _ _ _ h => h, fun _ _ _ _ h => h, fun _ _ _ _ h => h, fun _ _ _ _ h => h, fun _ _ _ _ h => h, fun _ _ _ _ h => h, trivial⟩) ⟨?_, ?_, ?_, ?_, ?_, ?_, ?_, trivial⟩ ?_
   ·intro a w G1 f hcl hfi hon hW HE hp hO; obtain ⟨hl, HS⟩ := hW
    refine o_move HE rfl rfl ?_; clear HE; intro a HE
    exact ⟨_, _, Heap.le.refl _, ⟨hl, HS⟩, fun d hd => (by cases hd; exact HE.get _ _ rfl), HE.defers, rfl⟩
   ·intro a w G1 f hcl hfi hon hW HE hp hO; obtain ⟨hl, HS⟩ := hW
    refine o_ldI HE rfl HS rfl T.s3 (hCd.le hl) (j := 0) rfl rfl ?_; clear HE; intro a HE
    exact ⟨_, _, Heap.le.refl _, ⟨hl, HS⟩, fun d hd => (by cases hd; exact HE.get _ _ rfl), HE.defers, rfl⟩
   ·intro a w G1 f hcl hfi hon hW HE hp hO; obtain ⟨hl, HS⟩ := hW
    refine o_ldA HE rfl HS rfl T.a23 (.here .here) rfl ?_; clear HE; intro a HE
    exact ⟨_, _, Heap.le.refl _, ⟨hl, HS⟩, fun d hd => (by cases hd; exact HE.get _ _ rfl), HE.defers, rfl⟩
   ·intro a w G1 f hcl hfi hon hW HE hp hO; obtain ⟨hl, HS⟩ := hW
    obtain ⟨_, e0, rfl⟩ := hp 0 46 _ (hon 0 rfl) rfl rfl; replace HE := HE.add e0
    refine o_nil HE rfl rfl ?_; clear HE; intro a HE
    exact ⟨_, _, Heap.le.refl _, ⟨hl, HS⟩, fun d hd => (by cases hd; exact HE.get _ _ rfl), HE.defers, rfl⟩
   ·intro a w G1 f hcl hfi hon hW HE hp hO; obtain ⟨hl, HS⟩ := hW
    obtain ⟨_, e3, rfl⟩ := hp 3 49 _ (hon 3 rfl) rfl rfl; replace HE := HE.add e3
    refine o_fld HE rfl rfl T.f26_0 ?_; clear HE; intro a HE
    exact ⟨_, _, Heap.le.refl _, ⟨hl, HS⟩, fun d hd => (by cases hd; exact HE.get _ _ rfl), HE.defers, rfl⟩
   ·intro a w G1 f hcl hfi hon hW HE hp hO; obtain ⟨hl, HS⟩ := hW
    obtain ⟨_, e4, rfl⟩ := hp 4 50 _ (hon 4 rfl) rfl rfl; replace HE := HE.add e4
    obtain ⟨_, e1, rfl⟩ := hp 1 47 _ (hon 1 rfl) rfl rfl; replace HE := HE.add e1
    refine o_ixA HE rfl rfl rfl T.r24 (by decide) ?_; clear HE; intro a HE
    exact ⟨_, _, Heap.le.refl _, ⟨hl, HS⟩, fun d hd => (by cases hd; exact HE.get _ _ rfl), HE.defers, rfl⟩
   ·intro a w G1 f hcl hfi hon hW HE hp hO; obtain ⟨hl, HS⟩ := hW
    obtain ⟨_, e5, rfl⟩ := hp 5 51 _ (hon 5 rfl) rfl rfl; replace HE := HE.add e5
    obtain ⟨_, e2, rfl⟩ := hp 2 48 _ (hon 2 rfl) rfl rfl; replace HE := HE.add e2
    refine o_stA HE HS rfl rfl rfl T.a23 (.there (.here .here)) rfl ?_; clear HS; intro w HS
    replace HS := HS.conv (L2 := [(0, _), (1, _), (2, _), (3, _), (4, _), (5, _), (6, _), (7, _), (8, _), (9, _), (10, _), (11, _), (12, _), (13, _)]) (.there (.here .here)) ⟨rfl, rfl, rfl, rfl, rfl, rfl, rfl, rfl, rfl, rfl, rfl, rfl, rfl, rfl, trivial⟩
    exact ⟨.bool true, _, Heap.le.refl _, ⟨hl, HS⟩, fun d hd => (by cases hd), HE.defers, trivial⟩
   clear HE HS; intro a w G39 f hle40 hall HW HE hp; obtain ⟨_, HS⟩ := HW
   have hfw6 := hall 6 (by decide)
   simp only [hfw6, cond_true] at HS
   replace hR := hR.le hle40
   replace hCd := hCd.le hle40
   replace hgw := hgw.le hle40
   clear hp hall
   refine hK37 _ _ ?_; clear hK37
   refine wp_seq_k (fun K hK => ?_); refine wp_region_lit ?_
   refine o_move HE rfl rfl ?_; clear HE; intro a HE
   refine o_move HE rfl rfl ?_; clear HE; intro a HE
   refine cutL 4 (fun a' w' => w = w' ∧ Env a' 63 [] [(57, .bool (((wayS x7).2) && (decide ((l.length : Int) = 1)))), (0, .pointer (some ⟨bp, 0, none⟩)), (1, .slice (some ⟨eb7, eo7, none⟩) l.length c), (2, .pointer (some ⟨bd, 0, none⟩)), (5, .bool false), (6, .int .i64 ((wayS x7).1)), (7, .bool ((wayS x7).2)), (8, .pointer (some ⟨B8, 0, none⟩)), (11, .slice (some ⟨eb7, eo7, none⟩) l.length c), (12, .int .i64 (l.length : Int)), (13, .bool (decide ((l.length : Int) = 0))), (14, .tuple #[.int .i64 ((wayS x7).1), .bool ((wayS x7).2)]), (15, .slice (some ⟨eb7, eo7, none⟩) l.length c), (16, .pointer (some ⟨eb7, eo7 + (0 : Int).toNat * 1, none⟩)), (17, str x7), (18, .tuple #[.int .i64 ((wayS x7).1), .bool ((wayS x7).2)]), (19, .int .i64 ((wayS x7).1)), (20, .bool ((wayS x7).2)), (21, .int .i64 ((wayS x7).1)), (22, .agg #[.int .i64 ((wayS x7).1), .int .i64 0]), (29, .bool ((decide (((wayS x7).1) = 2)) && (decide ((l.length : Int) = 2))))]) ?_ ?_
   ·refine (Bool.eq_false_or_eq_true ((wayS x7).2)).elim (fun hb41 => ?_) (fun hb41 => ?_)
    ·skip
     have hk42 := hb41; try simp only [zz1, zz2, zz3, zz4, zz5, zz7, zz8, zz9, zza, zzb] at hk42
     refine op_on HE rfl rfl hb41 ?_
     refine o_move HE rfl rfl ?_; clear HE; intro a HE
     refine op_on HE rfl rfl hb41 ?_
     refine o_lenL HE rfl rfl Tryd.underlying29 ?_; clear HE; intro a HE
     refine op_on HE rfl rfl hb41 ?_
     refine o_eqI HE rfl rfl rfl ?_; clear HE; intro a HE
     refine o_pick_t HE rfl rfl hb41 rfl ?_; clear HE; intro a HE
     exact ⟨rfl, HE.cut ⟨by rw [hb41]; rfl, rfl, rfl, rfl, rfl, rfl, rfl, rfl, rfl, rfl, rfl, rfl, rfl, rfl, rfl, rfl, rfl, rfl, rfl, rfl, rfl, trivial⟩⟩
    ·skip
     have hk43 := hb41; try simp only [zz1, zz2, zz3, zz4, zz5, zz7, zz8, zz9, zza, zzb] at hk43
     refine g_off HE rfl rfl rfl hb41 ?_; clear HE; intro a HE
     refine g_off HE rfl rfl rfl hb41 ?_; clear HE; intro a HE
     refine g_off HE rfl rfl rfl hb41 ?_; clear HE; intro a HE
     refine o_pick_f HE rfl rfl hb41 rfl ?_; clear HE; intro a HE
     exact ⟨rfl, HE.cut ⟨by rw [hb41]; rfl, rfl, rfl, rfl, rfl, rfl, rfl, rfl, rfl, rfl, rfl, rfl, rfl, rfl, rfl, rfl, rfl, rfl, rfl, rfl, rfl, trivial⟩⟩
   clear HE; rintro a _ ⟨rfl, HE⟩
   refine o_move HE rfl rfl ?_; clear HE; intro a HE
   obtain ⟨M0, hM0, HS⟩ : ∃ M0, M0 = _ ∧ St w0 G [bp] G39 _ M0 := ⟨_, rfl, HS⟩
   refine cutL 4 (fun a' w' => St w0 G [bp] G39 w' M0 ∧ Env a' 63 [] [(62, .bool ((((wayS x7).2) && (decide ((l.length : Int) = 1))) && (ruledB 1 ⟨(wayS x7).1, 0⟩))), (0, .pointer (some ⟨bp, 0, none⟩)), (1, .slice (some ⟨eb7, eo7, none⟩) l.length c), (2, .pointer (some ⟨bd, 0, none⟩)), (5, .bool false), (6, .int .i64 ((wayS x7).1)), (7, .bool ((wayS x7).2)), (8, .pointer (some ⟨B8, 0, none⟩)), (11, .slice (some ⟨eb7, eo7, none⟩) l.length c), (12, .int .i64 (l.length : Int)), (13, .bool (decide ((l.length : Int) = 0))), (14, .tuple #[.int .i64 ((wayS x7).1), .bool ((wayS x7).2)]), (15, .slice (some ⟨eb7, eo7, none⟩) l.length c), (16, .pointer (some ⟨eb7, eo7 + (0 : Int).toNat * 1, none⟩)), (17, str x7), (18, .tuple #[.int .i64 ((wayS x7).1), .bool ((wayS x7).2)]), (19, .int .i64 ((wayS x7).1)), (20, .bool ((wayS x7).2)), (21, .int .i64 ((wayS x7).1)), (22, .agg #[.int .i64 ((wayS x7).1), .int .i64 0]), (29, .bool ((decide (((wayS x7).1) = 2)) && (decide ((l.length : Int) = 2))))]) ?_ ?_
   ·refine (Bool.eq_false_or_eq_true (((wayS x7).2) && (decide ((l.length : Int) = 1)))).elim (fun hb44 => ?_) (fun hb44 => ?_)
    ·subst hM0
     have hk45 := hb44; try simp only [zz1, zz2, zz3, zz4, zz5, zz7, zz8, zz9, zza, zzb] at hk45
     refine op_on HE rfl rfl hb44 ?_
     refine o_ldI HE rfl HS rfl T.s3 hCd (j := 0) rfl rfl ?_; clear HE; intro a HE
     refine op_on HE rfl rfl hb44 ?_
     refine o_ldA HE rfl HS rfl T.a23 (.here .here) rfl ?_; clear HE; intro a HE
     refine op_on HE rfl rfl hb44 ?_
     refine o_callP HE rfl HS rfl rfl T.g41 (c_ruled 1 (⟨(wayS x7).1, 0⟩ : Rul) _ _ HS.sub) ?_
     clear HE HS; rintro _ w a HS rfl HE
     refine o_pick_t HE rfl rfl hb44 rfl ?_; clear HE; intro a HE
     exact ⟨HS, HE.cut ⟨by rw [hb44]; rfl, rfl, rfl, rfl, rfl, rfl, rfl, rfl, rfl, rfl, rfl, rfl, rfl, rfl, rfl, rfl, rfl, rfl, rfl, rfl, rfl, trivial⟩⟩
    ·subst hM0
     have hk46 := hb44; try simp only [zz1, zz2, zz3, zz4, zz5, zz7, zz8, zz9, zza, zzb] at hk46
     refine g_off HE rfl rfl rfl hb44 ?_; clear HE; intro a HE
     refine g_off HE rfl rfl rfl hb44 ?_; clear HE; intro a HE
     refine g_off HE rfl rfl rfl hb44 ?_; clear HE; intro a HE
     refine o_pick_f HE rfl rfl hb44 rfl ?_; clear HE; intro a HE
     exact ⟨HS, HE.cut ⟨by rw [hb44]; rfl, rfl, rfl, rfl, rfl, rfl, rfl, rfl, rfl, rfl, rfl, rfl, rfl, rfl, rfl, rfl, rfl, rfl, rfl, rfl, rfl, trivial⟩⟩
   clear HE HS; rintro a w ⟨HS, HE⟩; subst hM0
   refine o_assign HE rfl rfl ?_; clear HE; intro a HE
   refine hK _ _ ?_; clear hK K
   refine wp_ret ?_
   show Q .ret _ _
   refine ret hQ HE rfl (HE.res rfl .nil) ?_
   replace HS := HS.drop (M' := [_]) (sub_drop (sub_keep sub_nil))
   have e0 : w0S l = wayS x7 := by unfold w0S; rw [get0 ex7]
   have he : ruleS 1 P l = ((⟨⟨P.r0.way, P.r0.size⟩, ⟨(wayS x7).1, 0⟩, ⟨P.r2.way, P.r2.size⟩, ⟨P.r3.way, P.r3.size⟩, ⟨P.r4.way, P.r4.size⟩, P.time, P.note, P.loose, P.force⟩ : Pol), (((wayS x7).2) && (decide ((l.length : Int) = 1))) && (ruledB 1 ⟨(wayS x7).1, 0⟩)) := by
    unfold ruleS
    rw [if_neg (by omega), if_neg (by rw [e0]; omega), e0]
    rw [show decide ((l.length : Int) = 1) = decide (l.length = 1) from decide_eq_decide.2 (by omega)]
    rfl
   exact ⟨_, [(bp, Cells 26 [(0, .int .i64 P.r0.way), (1, .int .i64 P.r0.size), (2, .int .i64 ((wayS x7).1)), (3, .int .i64 0), (4, .int .i64 P.r2.way), (5, .int .i64 P.r2.size), (6, .int .i64 P.r3.way), (7, .int .i64 P.r3.size), (8, .int .i64 P.r4.way), (9, .int .i64 P.r4.size), (10, .int .i64 P.time), (11, .int .i64 P.note), (12, .bool P.loose), (13, .bool P.force)])], HS.stop (by simp), by rw [he] <;> rfl, by rw [he] <;> rfl⟩

/-! `incognito/policy.rule$1` -/
set_option maxRecDepth 100000 in
set_option maxHeartbeats 4000000 in
theorem c_rule2 (P : Pol) (l : List Bs) (A : Option Addr) (c : Nat) (bp : Nat) (bd : Nat) {W0 : World} {H0 : Heap} {L0 : List Nat} {M0 : List Chunk} (w0 : World) (G : Heap) (hS0 : St W0 H0 L0 G w0 ([(bp, Cells 26 [(0, .int .i64 P.r0.way), (1, .int .i64 P.r0.size), (2, .int .i64 P.r1.way), (3, .int .i64 P.r1.size), (4, .int .i64 P.r2.way), (5, .int .i64 P.r2.size), (6, .int .i64 P.r3.way), (7, .int .i64 P.r3.size), (8, .int .i64 P.r4.way), (9, .int .i64 P.r4.size), (10, .int .i64 P.time), (11, .int .i64 P.note), (12, .bool P.loose), (13, .bool P.force)])] :: M0)) (hR : Rd Knd.s G A l) (hc : l.length ≤ c) (hl : l.length ≤ 4294967281) (hls : ∀ x ∈ l, x.length ≤ 4294967280) (hCd : CellsAt G bd 0 [.int .i64 2]) (hgw : CellsAt G 1 0 [str [107, 101, 101, 112], str [111, 114, 100, 105, 110, 97, 108], str [107, 101, 121, 101, 100], str [114, 97, 110, 107], str [100, 114, 111, 112]]):
  Calls Tryd.prog 103 #[.pointer (some ⟨bp, 0, none⟩), .slice A l.length c, .pointer (some ⟨bd, 0, none⟩)] w0 (X.Ends w0 G [bp] (fun v G' C' => v = .bool (ruleS 2 P l).2 ∧ C' = [(bp, Cells 26 (pcE (ruleS 2 P l).1))]) (fun _ _ _ => False)) := by
 refine enter Tryd.func103 rfl Tryd.ntmps103 rfl ?_
 intro Q hQ a HE
 have HS := St.start (C := [(bp, Cells 26 [(0, .int .i64 P.r0.way), (1, .int .i64 P.r0.size), (2, .int .i64 P.r1.way), (3, .int .i64 P.r1.size), (4, .int .i64 P.r2.way), (5, .int .i64 P.r2.size), (6, .int .i64 P.r3.way), (7, .int .i64 P.r3.size), (8, .int .i64 P.r4.way), (9, .int .i64 P.r4.size), (10, .int .i64 P.time), (11, .int .i64 P.note), (12, .bool P.loose), (13, .bool P.force)])]) hS0.sub (fun p hp => hS0.mem p (by simp only [List.flatten_cons, List.mem_append]; exact .inl hp)) (fun p hp => hS0.sep p (by simp only [List.flatten_cons, List.mem_append]; exact .inl hp)) (by simp [X.keys])
 change St w0 G [bp] G w0 _ at HS
 refine wp_seq_k (fun K hK => ?_); refine wp_region_lit ?_
 refine o_assign HE rfl rfl ?_; clear HE; intro a HE
 refine hK _ _ ?_; clear hK K
 refine wp_seq_k (fun K3 hK2 => ?_)
 refine wp_seq_k (fun K hK => ?_); refine wp_region_lit ?_
 refine o_move HE rfl rfl ?_; clear HE; intro a HE
 refine o_lenL HE rfl rfl Tryd.underlying29 ?_; clear HE; intro a HE
 refine o_eqI HE rfl rfl rfl ?_; clear HE; intro a HE
 refine hK _ _ ?_; clear hK K
 refine cond HE rfl (fun h5 => ?_) (fun h5 => ?_)
 ·have h5r := h5; try simp only [zz1, zz2, zz3, zz4, zz5, zz6, zz7, zz8, zz9, zza, zzb] at h5
  refine wp_seq_k (fun K hK => ?_); refine wp_region_lit ?_
  refine o_assign HE rfl rfl ?_; clear HE; intro a HE
  refine hK _ _ ?_; clear hK K
  refine wp_ret ?_
  show Q .ret _ _
  refine ret hQ HE rfl (HE.res rfl .nil) ?_
  have he : ruleS 2 P l = ((⟨⟨P.r0.way, P.r0.size⟩, ⟨P.r1.way, P.r1.size⟩, ⟨P.r2.way, P.r2.size⟩, ⟨P.r3.way, P.r3.size⟩, ⟨P.r4.way, P.r4.size⟩, P.time, P.note, P.loose, P.force⟩ : Pol), false) := by
   unfold ruleS
   rw [if_pos (by omega)]
  exact ⟨_, [(bp, Cells 26 [(0, .int .i64 P.r0.way), (1, .int .i64 P.r0.size), (2, .int .i64 P.r1.way), (3, .int .i64 P.r1.size), (4, .int .i64 P.r2.way), (5, .int .i64 P.r2.size), (6, .int .i64 P.r3.way), (7, .int .i64 P.r3.size), (8, .int .i64 P.r4.way), (9, .int .i64 P.r4.size), (10, .int .i64 P.time), (11, .int .i64 P.note), (12, .bool P.loose), (13, .bool P.force)])], HS.stop (by simp), by rw [he] <;> rfl, by rw [he] <;> rfl⟩
 ·have h5r := h5; try simp only [zz1, zz2, zz3, zz4, zz5, zz6, zz7, zz8, zz9, zza, zzb] at h5
  refine wp_skip ?_
  refine hK2 _ _ ?_; clear hK2
  refine wp_seq_k (fun K hK => ?_); refine wp_region_lit ?_
  refine o_move HE rfl rfl ?_; clear HE; intro a HE
  have hi7 : (0 : Int).toNat < l.length := by omega
  obtain ⟨eb7, eo7, hA7, el7⟩ := Rd.at hR (List.getElem?_eq_getElem hi7); cases hA7
  obtain ⟨x7, ex7⟩ : ∃ x, l[(0 : Int).toNat] = x := ⟨_, rfl⟩; rw [ex7] at el7
  have el7 := kof_open (enc := fun l => str l) el7
  refine o_ixL HE rfl rfl rfl T.l29 ⟨by omega, by omega⟩ ?_; clear HE; intro a HE
  refine o_ldI HE rfl HS rfl T.s9 el7 (j := 0) rfl rfl ?_; clear HE; intro a HE
  refine o_callP HE rfl HS rfl rfl T.g72 (c_way x7 _ _ HS.sub hgw) ?_
  clear HE HS; rintro _ w a HS rfl HE
  refine o_move HE rfl rfl ?_; clear HE; intro a HE
  refine o_extract HE rfl rfl rfl ?_; clear HE; intro a HE
  refine o_extract HE rfl rfl rfl ?_; clear HE; intro a HE
  refine o_assign HE rfl rfl ?_; clear HE; intro a HE
  refine o_assign HE rfl rfl ?_; clear HE; intro a HE
  refine hK _ _ ?_; clear hK K
  refine wp_seq_k (fun K hK => ?_); refine wp_region_lit ?_
  refine o_move HE rfl rfl ?_; clear HE; intro a HE
  refine o_build (cs := #[.int .i64 ((wayS x7).1), .int .i64 0]) HE rfl rfl (by kernel_rfl) ?_; clear HE; intro a HE
  refine o_allocL [(0, _), (1, _)] HE rfl HS T.z23 ⟨rfl, rfl, trivial⟩ ?_; clear HE HS; intro B8 w a HS HE
  refine o_stA HE HS rfl rfl rfl T.a23 (.here .here) rfl ?_; clear HS; intro w HS
  refine hK _ _ ?_; clear hK K
  refine wp_seq_k (fun K11 hK10 => ?_)
  refine wp_seq_k (fun K hK => ?_); refine wp_region_lit ?_
  refine o_move HE rfl rfl ?_; clear HE; intro a HE
  refine o_eqI HE rfl rfl rfl ?_; clear HE; intro a HE
  refine o_move HE rfl rfl ?_; clear HE; intro a HE
  refine cutL 4 (fun a' w' => w = w' ∧ Env a' 63 [] [(29, .bool ((decide (((wayS x7).1) = 2)) && (decide ((l.length : Int) = 2)))), (0, .pointer (some ⟨bp, 0, none⟩)), (1, .slice (some ⟨eb7, eo7, none⟩) l.length c), (2, .pointer (some ⟨bd, 0, none⟩)), (5, .bool false), (6, .int .i64 ((wayS x7).1)), (7, .bool ((wayS x7).2)), (8, .pointer (some ⟨B8, 0, none⟩)), (11, .slice (some ⟨eb7, eo7, none⟩) l.length c), (12, .int .i64 (l.length : Int)), (13, .bool (decide ((l.length : Int) = 0))), (14, .tuple #[.int .i64 ((wayS x7).1), .bool ((wayS x7).2)]), (15, .slice (some ⟨eb7, eo7, none⟩) l.length c), (16, .pointer (some ⟨eb7, eo7 + (0 : Int).toNat * 1, none⟩)), (17, str x7), (18, .tuple #[.int .i64 ((wayS x7).1), .bool ((wayS x7).2)]), (19, .int .i64 ((wayS x7).1)), (20, .bool ((wayS x7).2)), (21, .int .i64 ((wayS x7).1)), (22, .agg #[.int .i64 ((wayS x7).1), .int .i64 0])]) ?_ ?_
  ·refine (Bool.eq_false_or_eq_true (decide (((wayS x7).1) = 2))).elim (fun hb12 => ?_) (fun hb12 => ?_)
   ·skip
    have hk13 := hb12; try simp only [zz1, zz2, zz3, zz4, zz5, zz7, zz8, zz9, zza, zzb] at hk13
    refine op_on HE rfl rfl hb12 ?_
    refine o_move HE rfl rfl ?_; clear HE; intro a HE
    refine op_on HE rfl rfl hb12 ?_
    refine o_lenL HE rfl rfl Tryd.underlying29 ?_; clear HE; intro a HE
    refine op_on HE rfl rfl hb12 ?_
    refine o_eqI HE rfl rfl rfl ?_; clear HE; intro a HE
    refine o_pick_t HE rfl rfl hb12 rfl ?_; clear HE; intro a HE
    exact ⟨rfl, HE.cut ⟨by rw [hb12]; rfl, rfl, rfl, rfl, rfl, rfl, rfl, rfl, rfl, rfl, rfl, rfl, rfl, rfl, rfl, rfl, rfl, rfl, rfl, rfl, trivial⟩⟩
   ·skip
    have hk14 := hb12; try simp only [zz1, zz2, zz3, zz4, zz5, zz7, zz8, zz9, zza, zzb] at hk14
    refine g_off HE rfl rfl rfl hb12 ?_; clear HE; intro a HE
    refine g_off HE rfl rfl rfl hb12 ?_; clear HE; intro a HE
    refine g_off HE rfl rfl rfl hb12 ?_; clear HE; intro a HE
    refine o_pick_f HE rfl rfl hb12 rfl ?_; clear HE; intro a HE
    exact ⟨rfl, HE.cut ⟨by rw [hb12]; rfl, rfl, rfl, rfl, rfl, rfl, rfl, rfl, rfl, rfl, rfl, rfl, rfl, rfl, rfl, rfl, rfl, rfl, rfl, rfl, trivial⟩⟩
  clear HE; rintro a _ ⟨rfl, HE⟩
  refine hK _ _ ?_; clear hK K
  refine cond HE rfl (fun h16 => ?_) (fun h16 => ?_)
  ·have h16r := h16; try simp only [zz1, zz2, zz3, zz4, zz5, zz6, zz7, zz8, zz9, zza, zzb] at h16
   refine wp_seq_k (fun K hK => ?_); refine wp_region_lit ?_
   refine o_move HE rfl rfl ?_; clear HE; intro a HE
   have hi17 : (1 : Int).toNat < l.length := by omega
   obtain ⟨eb17, eo17, hA17, el17⟩ := Rd.at hR (List.getElem?_eq_getElem hi17); cases hA17
   obtain ⟨x17, ex17⟩ : ∃ x, l[(1 : Int).toNat] = x := ⟨_, rfl⟩; rw [ex17] at el17
   have el17 := kof_open (enc := fun l => str l) el17
   refine o_ixL HE rfl rfl rfl T.l29 ⟨by omega, by omega⟩ ?_; clear HE; intro a HE
   refine o_ldI HE rfl HS rfl T.s9 el17 (j := 0) rfl rfl ?_; clear HE; intro a HE
   have hxl17 : x17.length ≤ 4294967280 := by rw [← ex17]; exact hls _ (List.getElem_mem _)
   refine o_callP HE rfl HS rfl rfl T.g84 (c_count x17 16 _ _ HS.sub (by first | assumption | decide) (by first | omega | (simp; done) | (simp; omega))) ?_
   clear HE HS; rintro _ w a HS rfl HE
   refine o_move HE rfl rfl ?_; clear HE; intro a HE
   refine o_extract HE rfl rfl rfl ?_; clear HE; intro a HE
   refine o_extract HE rfl rfl rfl ?_; clear HE; intro a HE
   refine o_assign HE rfl rfl ?_; clear HE; intro a HE
   refine o_assign HE rfl rfl ?_; clear HE; intro a HE
   refine hK _ _ ?_; clear hK K
   refine wp_seq_k (fun K hK => ?_); refine wp_region_lit ?_
   refine o_move HE rfl rfl ?_; clear HE; intro a HE
   refine o_move HE rfl rfl ?_; clear HE; intro a HE
   refine cutL 3 (fun a' w' => w = w' ∧ Env a' 63 [] [(41, .bool (((wayS x7).2) && (decide ((erv (countS x17 16)) = 0)))), (0, .pointer (some ⟨bp, 0, none⟩)), (1, .slice (some ⟨eb7, eo7, none⟩) l.length c), (2, .pointer (some ⟨bd, 0, none⟩)), (5, .bool false), (6, .int .i64 ((wayS x7).1)), (7, .bool ((wayS x7).2)), (8, .pointer (some ⟨B8, 0, none⟩)), (9, .int .i64 (okv (countS x17 16))), (11, .slice (some ⟨eb7, eo7, none⟩) l.length c), (12, .int .i64 (l.length : Int)), (13, .bool (decide ((l.length : Int) = 0))), (14, .tuple #[.int .i64 ((wayS x7).1), .bool ((wayS x7).2)]), (15, .slice (some ⟨eb7, eo7, none⟩) l.length c), (16, .pointer (some ⟨eb7, eo7 + (0 : Int).toNat * 1, none⟩)), (17, str x7), (18, .tuple #[.int .i64 ((wayS x7).1), .bool ((wayS x7).2)]), (19, .int .i64 ((wayS x7).1)), (20, .bool ((wayS x7).2)), (21, .int .i64 ((wayS x7).1)), (22, .agg #[.int .i64 ((wayS x7).1), .int .i64 0]), (29, .bool ((decide (((wayS x7).1) = 2)) && (decide ((l.length : Int) = 2)))), (30, .tuple #[.int .i64 (okv (countS x17 16)), .int .i64 (erv (countS x17 16))]), (31, .slice (some ⟨eb7, eo7, none⟩) l.length c), (32, .pointer (some ⟨eb7, eo7 + (1 : Int).toNat * 1, none⟩)), (33, str x17), (34, .tuple #[.int .i64 (okv (countS x17 16)), .int .i64 (erv (countS x17 16))]), (35, .int .i64 (okv (countS x17 16))), (36, .int .i64 (erv (countS x17 16)))]) ?_ ?_
   ·refine (Bool.eq_false_or_eq_true ((wayS x7).2)).elim (fun hb19 => ?_) (fun hb19 => ?_)
    ·skip
     have hk20 := hb19; try simp only [zz1, zz2, zz3, zz4, zz5, zz7, zz8, zz9, zza, zzb] at hk20
     refine op_on HE rfl rfl hb19 ?_
     refine o_move HE rfl rfl ?_; clear HE; intro a HE
     refine op_on HE rfl rfl hb19 ?_
     refine o_eqI HE rfl rfl rfl ?_; clear HE; intro a HE
     refine o_pick_t HE rfl rfl hb19 rfl ?_; clear HE; intro a HE
     exact ⟨rfl, HE.cut ⟨by rw [hb19]; rfl, rfl, rfl, rfl, rfl, rfl, rfl, rfl, rfl, rfl, rfl, rfl, rfl, rfl, rfl, rfl, rfl, rfl, rfl, rfl, rfl, rfl, rfl, rfl, rfl, rfl, rfl, rfl, rfl, trivial⟩⟩
    ·skip
     have hk21 := hb19; try simp only [zz1, zz2, zz3, zz4, zz5, zz7, zz8, zz9, zza, zzb] at hk21
     refine g_off HE rfl rfl rfl hb19 ?_; clear HE; intro a HE
     refine g_off HE rfl rfl rfl hb19 ?_; clear HE; intro a HE
     refine o_pick_f HE rfl rfl hb19 rfl ?_; clear HE; intro a HE
     exact ⟨rfl, HE.cut ⟨by rw [hb19]; rfl, rfl, rfl, rfl, rfl, rfl, rfl, rfl, rfl, rfl, rfl, rfl, rfl, rfl, rfl, rfl, rfl, rfl, rfl, rfl, rfl, rfl, rfl, rfl, rfl, rfl, rfl, rfl, rfl, trivial⟩⟩
   clear HE; rintro a _ ⟨rfl, HE⟩
   refine o_assign HE rfl rfl ?_; clear HE; intro a HE
   refine hK _ _ ?_; clear hK K
   replace HS := HS.conv (L2 := [(0, _), (1, _)]) (.here .here) ⟨rfl, rfl, trivial⟩
   have HE0 := HE
   have hR23 := Rd.take hR (1 : Int).toNat
   replace HE := HE.cut (L' := [(0, .pointer (some ⟨bp, 0, none⟩)), (2, .pointer (some ⟨bd, 0, none⟩)), (5, .bool false), (6, .int .i64 ((wayS x7).1)), (7, .bool (((wayS x7).2) && (decide ((erv (countS x17 16)) = 0)))), (8, .pointer (some ⟨B8, 0, none⟩)), (9, .int .i64 (okv (countS x17 16))), (11, .slice (some ⟨eb7, eo7, none⟩) l.length c), (12, .int .i64 (l.length : Int)), (13, .bool (decide ((l.length : Int) = 0))), (14, .tuple #[.int .i64 ((wayS x7).1), .bool ((wayS x7).2)]), (15, .slice (some ⟨eb7, eo7, none⟩) l.length c), (16, .pointer (some ⟨eb7, eo7 + (0 : Int).toNat * 1, none⟩)), (17, str x7), (18, .tuple #[.int .i64 ((wayS x7).1), .bool ((wayS x7).2)]), (19, .int .i64 ((wayS x7).1)), (20, .bool ((wayS x7).2)), (21, .int .i64 ((wayS x7).1)), (22, .agg #[.int .i64 ((wayS x7).1), .int .i64 0]), (29, .bool ((decide (((wayS x7).1) = 2)) && (decide ((l.length : Int) = 2)))), (30, .tuple #[.int .i64 (okv (countS x17 16)), .int .i64 (erv (countS x17 16))]), (31, .slice (some ⟨eb7, eo7, none⟩) l.length c), (32, .pointer (some ⟨eb7, eo7 + (1 : Int).toNat * 1, none⟩)), (33, str x17), (34, .tuple #[.int .i64 (okv (countS x17 16)), .int .i64 (erv (countS x17 16))]), (35, .int .i64 (okv (countS x17 16))), (36, .int .i64 (erv (countS x17 16))), (41, .bool (((wayS x7).2) && (decide ((erv (countS x17 16)) = 0))))]) ⟨rfl, rfl, rfl, rfl, rfl, rfl, rfl, rfl, rfl, rfl, rfl, rfl, rfl, rfl, rfl, rfl, rfl, rfl, rfl, rfl, rfl, rfl, rfl, rfl, rfl, rfl, rfl, rfl, trivial⟩
   refine drawnF (fun f G' w => Heap.le G G' ∧ St w0 G [bp] G' w [[(B8, Cells 23 [(0, .int .i64 ((wayS x7).1)), (1, bif f 4 then .int .i64 (okv (countS x17 16)) else .int .i64 0)])], [(bp, Cells 26 [(0, .int .i64 P.r0.way), (1, .int .i64 P.r0.size), (2, .int .i64 P.r1.way), (3, .int .i64 P.r1.size), (4, .int .i64 P.r2.way), (5, .int .i64 P.r2.size), (6, .int .i64 P.r3.way), (7, .int .i64 P.r3.size), (8, .int .i64 P.r4.way), (9, .int .i64 P.r4.size), (10, .int .i64 P.time), (11, .int .i64 P.note), (12, .bool P.loose), (13, .bool P.force)])]]) [fun v _ => v = .int .i64 (okv (countS x17 16)), fun v _ => v = .slice (some ⟨eb7, eo7, none⟩) l.length c, fun v _ => v = .slice (some ⟨eb7, eo7, none⟩) (((l).take (1 : Int).toNat).length) c, fun v _ => v = .pointer (some ⟨B8, 1, none⟩), fun _ _ => True, fun v _ => v = .slice (some ⟨eb7, eo7, none⟩) (((l).take (1 : Int).toNat).length) c] [(1, .slice (some ⟨eb7, eo7, none⟩) l.length c, 5)] T.mix rfl HE ⟨Heap.le.refl _, HS.drew⟩ rfl (fun t v k h => by simp only [List.mem_cons, Prod.mk.injEq, List.not_mem_nil, or_false] at h; obtain ⟨rfl, rfl, rfl⟩ := h; exact ⟨HE0.get _ _ rfl, rfl⟩) (AllM.get ⟨fun _ _ _ _ h => h, fun _ _ _ _ h => h, fun _ _ _ _ h => h, fun _ _ _ _ h => h, fun _ _ _ _ h => h, fun _ _ _ _ h => h, trivial⟩) ⟨?_, ?_, ?_, ?_, ?_, ?_, trivial⟩ ?_
   ·intro a w G1 f hcl hfi hon hW HE hp hO; obtain ⟨hl, HS⟩ := hW
    refine o_move HE rfl rfl ?_; clear HE; intro a HE
    exact ⟨_, _, Heap.le.refl _, ⟨hl, HS⟩, fun d hd => (by cases hd; exact HE.get _ _ rfl), HE.defers, rfl⟩
   ·intro a w G1 f hcl hfi hon hW HE hp hO; obtain ⟨hl, HS⟩ := hW
    have hfk : f 5 = false := by
     cases hq : f 5 with
     | false => rfl
     | true =>
      have hq := hcl 5 _ rfl hq 2 rfl
      have hq := hcl 2 _ rfl hq 1 rfl
      rw [hfi] at hq; cases hq
    replace HE := HE.add (hO 1 (.slice (some ⟨eb7, eo7, none⟩) l.length c) 5 (by simp) hfk)
    refine o_move HE rfl rfl ?_; clear HE; intro a HE
    exact ⟨_, _, Heap.le.refl _, ⟨hl, HS⟩, fun d hd => (by cases hd; exact HE.get _ _ rfl), HE.defers, rfl⟩
   ·intro a w G1 f hcl hfi hon hW HE hp hO; obtain ⟨hl, HS⟩ := hW
    obtain ⟨_, e1, rfl⟩ := hp 1 43 _ (hon 1 rfl) rfl rfl; replace HE := HE.add e1
    refine o_sliceRHi (K := Knd.s) (k := (1 : Int)) HE rfl rfl rfl T.l29 hR rfl (by omega) (by omega) ?_; clear HE; intro a _ _ HE
    exact ⟨_, _, Heap.le.refl _, ⟨hl, HS⟩, fun d hd => (by cases hd; exact HE.get _ _ rfl), HE.defers, rfl⟩
   ·intro a w G1 f hcl hfi hon hW HE hp hO; obtain ⟨hl, HS⟩ := hW
    refine o_fld HE rfl rfl T.f23_1 ?_; clear HE; intro a HE
    exact ⟨_, _, Heap.le.refl _, ⟨hl, HS⟩, fun d hd => (by cases hd; exact HE.get _ _ rfl), HE.defers, rfl⟩
   ·intro a w G1 f hcl hfi hon hW HE hp hO; obtain ⟨hl, HS⟩ := hW
    obtain ⟨_, e3, rfl⟩ := hp 3 45 _ (hon 3 rfl) rfl rfl; replace HE := HE.add e3
    obtain ⟨_, e0, rfl⟩ := hp 0 42 _ (hon 0 rfl) rfl rfl; replace HE := HE.add e0
    refine o_st HE HS rfl rfl rfl T.s3 (.here .here) rfl ?_; clear HS; intro w HS
    replace HS := HS.conv (L2 := [(0, _), (1, _)]) (.here .here) ⟨rfl, rfl, trivial⟩
    exact ⟨.bool true, _, Heap.le.refl _, ⟨hl, HS⟩, fun d hd => (by cases hd), HE.defers, trivial⟩
   ·intro a w G1 f hcl hfi hon hW HE hp hO; obtain ⟨hl, HS⟩ := hW
    obtain ⟨_, e2, rfl⟩ := hp 2 44 _ (hon 2 rfl) rfl rfl; replace HE := HE.add e2
    refine o_assign HE rfl rfl ?_; clear HE; intro a HE
    exact ⟨_, _, Heap.le.refl _, ⟨hl, HS⟩, fun d hd => (by cases hd; exact HE.get _ _ rfl), HE.defers, rfl⟩
   clear HE HS; intro a w G24 f hle25 hall HW HE hp; obtain ⟨_, HS⟩ := HW
   have hfw4 := hall 4 (by decide)
   simp only [hfw4, cond_true] at HS
   replace hR := hR.le hle25
   replace hCd := hCd.le hle25
   replace hgw := hgw.le hle25
   replace hR23 := hR23.le hle25
   obtain ⟨_, e5, rfl⟩ := hp 5 1 _ rfl rfl; replace HE := HE.add e5
   clear hp hall
   refine hK10 _ _ ?_; clear hK10
   refine wp_seq_k (fun K27 hK26 => ?_)
   replace HE := HE.cut (L' := [(0, .pointer (some ⟨bp, 0, none⟩)), (1, .slice (some ⟨eb7, eo7, none⟩) (((l).take (1 : Int).toNat).length) c), (2, .pointer (some ⟨bd, 0, none⟩)), (5, .bool false), (6, .int .i64 ((wayS x7).1)), (7, .bool (((wayS x7).2) && (decide ((erv (countS x17 16)) = 0)))), (8, .pointer (some ⟨B8, 0, none⟩)), (9, .int .i64 (okv (countS x17 16))), (11, .slice (some ⟨eb7, eo7, none⟩) l.length c), (12, .int .i64 (l.length : Int)), (13, .bool (decide ((l.length : Int) = 0))), (14, .tuple #[.int .i64 ((wayS x7).1), .bool ((wayS x7).2)]), (15, .slice (some ⟨eb7, eo7, none⟩) l.length c), (16, .pointer (some ⟨eb7, eo7 + (0 : Int).toNat * 1, none⟩)), (17, str x7), (18, .tuple #[.int .i64 ((wayS x7).1), .bool ((wayS x7).2)]), (19, .int .i64 ((wayS x7).1)), (20, .bool ((wayS x7).2)), (21, .int .i64 ((wayS x7).1)), (22, .agg #[.int .i64 ((wayS x7).1), .int .i64 0]), (29, .bool ((decide (((wayS x7).1) = 2)) && (decide ((l.length : Int) = 2)))), (30, .tuple #[.int .i64 (okv (countS x17 16)), .int .i64 (erv (countS x17 16))]), (31, .slice (some ⟨eb7, eo7, none⟩) l.length c), (32, .pointer (some ⟨eb7, eo7 + (1 : Int).toNat * 1, none⟩)), (33, str x17), (34, .tuple #[.int .i64 (okv (countS x17 16)), .int .i64 (erv (countS x17 16))]), (35, .int .i64 (okv (countS x17 16))), (36, .int .i64 (erv (countS x17 16))), (41, .bool (((wayS x7).2) && (decide ((erv (countS x17 16)) = 0))))]) ⟨rfl, rfl, rfl, rfl, rfl, rfl, rfl, rfl, rfl, rfl, rfl, rfl, rfl, rfl, rfl, rfl, rfl, rfl, rfl, rfl, rfl, rfl, rfl, rfl, rfl, rfl, rfl, rfl, rfl, trivial⟩
   refine drawnF (fun f G' w => Heap.le G24 G' ∧ St w0 G [bp] G' w [[(B8, Cells 23 [(0, .int .i64 ((wayS x7).1)), (1, .int .i64 (okv (countS x17 16)))])], [(bp, Cells 26 [(0, .int .i64 P.r0.way), (1, .int .i64 P.r0.size), (2, .int .i64 P.r1.way), (3, .int .i64 P.r1.size), (4, bif f 6 then .int .i64 ((wayS x7).1) else .int .i64 P.r2.way), (5, bif f 6 then .int .i64 (okv (countS x17 16)) else .int .i64 P.r2.size), (6, .int .i64 P.r3.way), (7, .int .i64 P.r3.size), (8, .int .i64 P.r4.way), (9, .int .i64 P.r4.size), (10, .int .i64 P.time), (11, .int .i64 P.note), (12, .bool P.loose), (13, .bool P.force)])]]) [fun v _ => v = .pointer (some ⟨bp, 0, none⟩), fun v _ => v = .int .i64 2, fun v _ => v = .agg #[.int .i64 ((wayS x7).1), .int .i64 (okv (countS x17 16))], fun v _ => v = .pointer (some ⟨bp, 0, none⟩), fun v _ => v = .pointer (some ⟨bp, 0, none⟩), fun v _ => v = .pointer (some ⟨bp, 4, none⟩), fun _ _ => True] [] T.mix rfl HE ⟨Heap.le.refl _, HS.drew⟩ rfl (by simp) (AllM.get ⟨fun _ _ _ _ h => h, fun _ _ _ _ h => h, fun _ _ _ _ h => h, fun _ _ _ _ h => h, fun _ _ _ _ h => h, fun _ _ _ _ h => h, fun _ _ _ _ h => h, trivial⟩) ⟨?_, ?_, ?_, ?_, ?_, ?_, ?_, trivial⟩ ?_
   ·intro a w G1 f hcl hfi hon hW HE hp hO; obtain ⟨hl, HS⟩ := hW
    refine o_move HE rfl rfl ?_; clear HE; intro a HE
    exact ⟨_, _, Heap.le.refl _, ⟨hl, HS⟩, fun d hd => (by cases hd; exact HE.get _ _ rfl), HE.defers, rfl⟩
   ·intro a w G1 f hcl hfi hon hW HE hp hO; obtain ⟨hl, HS⟩ := hW
    refine o_ldI HE rfl HS rfl T.s3 (hCd.le hl) (j := 0) rfl rfl ?_; clear HE; intro a HE
    exact ⟨_, _, Heap.le.refl _, ⟨hl, HS⟩, fun d hd => (by cases hd; exact HE.get _ _ rfl), HE.defers, rfl⟩
   ·intro a w G1 f hcl hfi hon hW HE hp hO; obtain ⟨hl, HS⟩ := hW
    refine o_ldA HE rfl HS rfl T.a23 (.here .here) rfl ?_; clear HE; intro a HE
    exact ⟨_, _, Heap.le.refl _, ⟨hl, HS⟩, fun d hd => (by cases hd; exact HE.get _ _ rfl), HE.defers, rfl⟩
   ·intro a w G1 f hcl hfi hon hW HE hp hO; obtain ⟨hl, HS⟩ := hW
    obtain ⟨_, e0, rfl⟩ := hp 0 46 _ (hon 0 rfl) rfl rfl; replace HE := HE.add e0
    refine o_nil HE rfl rfl ?_; clear HE; intro a HE
    exact ⟨_, _, Heap.le.refl _, ⟨hl, HS⟩, fun d hd => (by cases hd; exact HE.get _ _ rfl), HE.defers, rfl⟩
   ·intro a w G1 f hcl hfi hon hW HE hp hO; obtain ⟨hl, HS⟩ := hW
    obtain ⟨_, e3, rfl⟩ := hp 3 49 _ (hon 3 rfl) rfl rfl; replace HE := HE.add e3
    refine o_fld HE rfl rfl T.f26_0 ?_; clear HE; intro a HE
    exact ⟨_, _, Heap.le.refl _, ⟨hl, HS⟩, fun d hd => (by cases hd; exact HE.get _ _ rfl), HE.defers, rfl⟩
   ·intro a w G1 f hcl hfi hon hW HE hp hO; obtain ⟨hl, HS⟩ := hW
    obtain ⟨_, e4, rfl⟩ := hp 4 50 _ (hon 4 rfl) rfl rfl; replace HE := HE.add e4
    obtain ⟨_, e1, rfl⟩ := hp 1 47 _ (hon 1 rfl) rfl rfl; replace HE := HE.add e1
    refine o_ixA HE rfl rfl rfl T.r24 (by decide) ?_; clear HE; intro a HE
    exact ⟨_, _, Heap.le.refl _, ⟨hl, HS⟩, fun d hd => (by cases hd; exact HE.get _ _ rfl), HE.defers, rfl⟩
   ·intro a w G1 f hcl hfi hon hW HE hp hO; obtain ⟨hl, HS⟩ := hW
    obtain ⟨_, e5, rfl⟩ := hp 5 51 _ (hon 5 rfl) rfl rfl; replace HE := HE.add e5
    obtain ⟨_, e2, rfl⟩ := hp 2 48 _ (hon 2 rfl) rfl rfl; replace HE := HE.add e2
    refine o_stA HE HS rfl rfl rfl T.a23 (.there (.here .here)) rfl ?_; clear HS; intro w HS
    replace HS := HS.conv (L2 := [(0, _), (1, _), (2, _), (3, _), (4, _), (5, _), (6, _), (7, _), (8, _), (9, _), (10, _), (11, _), (12, _), (13, _)]) (.there (.here .here)) ⟨rfl, rfl, rfl, rfl, rfl, rfl, rfl, rfl, rfl, rfl, rfl, rfl, rfl, rfl, trivial⟩
    exact ⟨.bool true, _, Heap.le.refl _, ⟨hl, HS⟩, fun d hd => (by cases hd), HE.defers, trivial⟩
   clear HE HS; intro a w G28 f hle29 hall HW HE hp; obtain ⟨_, HS⟩ := HW
   have hfw6 := hall 6 (by decide)
   simp only [hfw6, cond_true] at HS
   replace hR := hR.le hle29
   replace hCd := hCd.le hle29
   replace hgw := hgw.le hle29
   replace hR23 := hR23.le hle29
   clear hp hall
   refine hK26 _ _ ?_; clear hK26
   refine wp_seq_k (fun K hK => ?_); refine wp_region_lit ?_
   refine o_move HE rfl rfl ?_; clear HE; intro a HE
   refine o_move HE rfl rfl ?_; clear HE; intro a HE
   refine cutL 4 (fun a' w' => w = w' ∧ Env a' 63 [] [(57, .bool ((((wayS x7).2) && (decide ((erv (countS x17 16)) = 0))) && (decide ((((l).take (1 : Int).toNat).length : Int) = 1)))), (0, .pointer (some ⟨bp, 0, none⟩)), (1, .slice (some ⟨eb7, eo7, none⟩) (((l).take (1 : Int).toNat).length) c), (2, .pointer (some ⟨bd, 0, none⟩)), (5, .bool false), (6, .int .i64 ((wayS x7).1)), (7, .bool (((wayS x7).2) && (decide ((erv (countS x17 16)) = 0)))), (8, .pointer (some ⟨B8, 0, none⟩)), (9, .int .i64 (okv (countS x17 16))), (11, .slice (some ⟨eb7, eo7, none⟩) l.length c), (12, .int .i64 (l.length : Int)), (13, .bool (decide ((l.length : Int) = 0))), (14, .tuple #[.int .i64 ((wayS x7).1), .bool ((wayS x7).2)]), (15, .slice (some ⟨eb7, eo7, none⟩) l.length c), (16, .pointer (some ⟨eb7, eo7 + (0 : Int).toNat * 1, none⟩)), (17, str x7), (18, .tuple #[.int .i64 ((wayS x7).1), .bool ((wayS x7).2)]), (19, .int .i64 ((wayS x7).1)), (20, .bool ((wayS x7).2)), (21, .int .i64 ((wayS x7).1)), (22, .agg #[.int .i64 ((wayS x7).1), .int .i64 0]), (29, .bool ((decide (((wayS x7).1) = 2)) && (decide ((l.length : Int) = 2)))), (30, .tuple #[.int .i64 (okv (countS x17 16)), .int .i64 (erv (countS x17 16))]), (31, .slice (some ⟨eb7, eo7, none⟩) l.length c), (32, .pointer (some ⟨eb7, eo7 + (1 : Int).toNat * 1, none⟩)), (33, str x17), (34, .tuple #[.int .i64 (okv (countS x17 16)), .int .i64 (erv (countS x17 16))]), (35, .int .i64 (okv (countS x17 16))), (36, .int .i64 (erv (countS x17 16))), (41, .bool (((wayS x7).2) && (decide ((erv (countS x17 16)) = 0))))]) ?_ ?_
   ·refine (Bool.eq_false_or_eq_true (((wayS x7).2) && (decide ((erv (countS x17 16)) = 0)))).elim (fun hb30 => ?_) (fun hb30 => ?_)
    ·skip
     have hk31 := hb30; try simp only [zz1, zz2, zz3, zz4, zz5, zz7, zz8, zz9, zza, zzb] at hk31
     refine op_on HE rfl rfl hb30 ?_
     refine o_move HE rfl rfl ?_; clear HE; intro a HE
     refine op_on HE rfl rfl hb30 ?_
     refine o_lenL HE rfl rfl Tryd.underlying29 ?_; clear HE; intro a HE
     refine op_on HE rfl rfl hb30 ?_
     refine o_eqI HE rfl rfl rfl ?_; clear HE; intro a HE
     refine o_pick_t HE rfl rfl hb30 rfl ?_; clear HE; intro a HE
     exact ⟨rfl, HE.cut ⟨by rw [hb30]; rfl, rfl, rfl, rfl, rfl, rfl, rfl, rfl, rfl, rfl, rfl, rfl, rfl, rfl, rfl, rfl, rfl, rfl, rfl, rfl, rfl, rfl, rfl, rfl, rfl, rfl, rfl, rfl, rfl, rfl, trivial⟩⟩
    ·skip
     have hk32 := hb30; try simp only [zz1, zz2, zz3, zz4, zz5, zz7, zz8, zz9, zza, zzb] at hk32
     refine g_off HE rfl rfl rfl hb30 ?_; clear HE; intro a HE
     refine g_off HE rfl rfl rfl hb30 ?_; clear HE; intro a HE
     refine g_off HE rfl rfl rfl hb30 ?_; clear HE; intro a HE
     refine o_pick_f HE rfl rfl hb30 rfl ?_; clear HE; intro a HE
     exact ⟨rfl, HE.cut ⟨by rw [hb30]; rfl, rfl, rfl, rfl, rfl, rfl, rfl, rfl, rfl, rfl, rfl, rfl, rfl, rfl, rfl, rfl, rfl, rfl, rfl, rfl, rfl, rfl, rfl, rfl, rfl, rfl, rfl, rfl, rfl, rfl, trivial⟩⟩
   clear HE; rintro a _ ⟨rfl, HE⟩
   refine o_move HE rfl rfl ?_; clear HE; intro a HE
   obtain ⟨M0, hM0, HS⟩ : ∃ M0, M0 = _ ∧ St w0 G [bp] G28 _ M0 := ⟨_, rfl, HS⟩
   refine cutL 4 (fun a' w' => St w0 G [bp] G28 w' M0 ∧ Env a' 63 [] [(62, .bool (((((wayS x7).2) && (decide ((erv (countS x17 16)) = 0))) && (decide ((((l).take (1 : Int).toNat).length : Int) = 1))) && (ruledB 2 ⟨(wayS x7).1, okv (countS x17 16)⟩))), (0, .pointer (some ⟨bp, 0, none⟩)), (1, .slice (some ⟨eb7, eo7, none⟩) (((l).take (1 : Int).toNat).length) c), (2, .pointer (some ⟨bd, 0, none⟩)), (5, .bool false), (6, .int .i64 ((wayS x7).1)), (7, .bool (((wayS x7).2) && (decide ((erv (countS x17 16)) = 0)))), (8, .pointer (some ⟨B8, 0, none⟩)), (9, .int .i64 (okv (countS x17 16))), (11, .slice (some ⟨eb7, eo7, none⟩) l.length c), (12, .int .i64 (l.length : Int)), (13, .bool (decide ((l.length : Int) = 0))), (14, .tuple #[.int .i64 ((wayS x7).1), .bool ((wayS x7).2)]), (15, .slice (some ⟨eb7, eo7, none⟩) l.length c), (16, .pointer (some ⟨eb7, eo7 + (0 : Int).toNat * 1, none⟩)), (17, str x7), (18, .tuple #[.int .i64 ((wayS x7).1), .bool ((wayS x7).2)]), (19, .int .i64 ((wayS x7).1)), (20, .bool ((wayS x7).2)), (21, .int .i64 ((wayS x7).1)), (22, .agg #[.int .i64 ((wayS x7).1), .int .i64 0]), (29, .bool ((decide (((wayS x7).1) = 2)) && (decide ((l.length : Int) = 2)))), (30, .tuple #[.int .i64 (okv (countS x17 16)), .int .i64 (erv (countS x17 16))]), (31, .slice (some ⟨eb7, eo7, none⟩) l.length c), (32, .pointer (some ⟨eb7, eo7 + (1 : Int).toNat * 1, none⟩)), (33, str x17), (34, .tuple #[.int .i64 (okv (countS x17 16)), .int .i64 (erv (countS x17 16))]), (35, .int .i64 (okv (countS x17 16))), (36, .int .i64 (erv (countS x17 16))), (41, .bool (((wayS x7).2) && (decide ((erv (countS x17 16)) = 0))))]) ?_ ?_
   ·refine (Bool.eq_false_or_eq_true ((((wayS x7).2) && (decide ((erv (countS x17 16)) = 0))) && (decide ((((l).take (1 : Int).toNat).length : Int) = 1)))).elim (fun hb33 => ?_) (fun hb33 => ?_)
    ·subst hM0
     have hk34 := hb33; try simp only [zz1, zz2, zz3, zz4, zz5, zz7, zz8, zz9, zza, zzb] at hk34
     refine op_on HE rfl rfl hb33 ?_
     refine o_ldI HE rfl HS rfl T.s3 hCd (j := 0) rfl rfl ?_; clear HE; intro a HE
     refine op_on HE rfl rfl hb33 ?_
     refine o_ldA HE rfl HS rfl T.a23 (.here .here) rfl ?_; clear HE; intro a HE
     refine op_on HE rfl rfl hb33 ?_
     refine o_callP HE rfl HS rfl rfl T.g41 (c_ruled 2 (⟨(wayS x7).1, okv (countS x17 16)⟩ : Rul) _ _ HS.sub) ?_
     clear HE HS; rintro _ w a HS rfl HE
     refine o_pick_t HE rfl rfl hb33 rfl ?_; clear HE; intro a HE
     exact ⟨HS, HE.cut ⟨by rw [hb33]; rfl, rfl, rfl, rfl, rfl, rfl, rfl, rfl, rfl, rfl, rfl, rfl, rfl, rfl, rfl, rfl, rfl, rfl, rfl, rfl, rfl, rfl, rfl, rfl, rfl, rfl, rfl, rfl, rfl, rfl, trivial⟩⟩
    ·subst hM0
     have hk35 := hb33; try simp only [zz1, zz2, zz3, zz4, zz5, zz7, zz8, zz9, zza, zzb] at hk35
     refine g_off HE rfl rfl rfl hb33 ?_; clear HE; intro a HE
     refine g_off HE rfl rfl rfl hb33 ?_; clear HE; intro a HE
     refine g_off HE rfl rfl rfl hb33 ?_; clear HE; intro a HE
     refine o_pick_f HE rfl rfl hb33 rfl ?_; clear HE; intro a HE
     exact ⟨HS, HE.cut ⟨by rw [hb33]; rfl, rfl, rfl, rfl, rfl, rfl, rfl, rfl, rfl, rfl, rfl, rfl, rfl, rfl, rfl, rfl, rfl, rfl, rfl, rfl, rfl, rfl, rfl, rfl, rfl, rfl, rfl, rfl, rfl, rfl, trivial⟩⟩
   clear HE HS; rintro a w ⟨HS, HE⟩; subst hM0
   refine o_assign HE rfl rfl ?_; clear HE; intro a HE
   refine hK _ _ ?_; clear hK K
   refine wp_ret ?_
   show Q .ret _ _
   refine ret hQ HE rfl (HE.res rfl .nil) ?_
   replace HS := HS.drop (M' := [_]) (sub_drop (sub_keep sub_nil))
   have e0 : w0S l = wayS x7 := by unfold w0S; rw [get0 ex7]
   have e1 := get1 ex17
   have he : ruleS 2 P l = ((⟨⟨P.r0.way, P.r0.size⟩, ⟨P.r1.way, P.r1.size⟩, ⟨(wayS x7).1, okv (countS x17 16)⟩, ⟨P.r3.way, P.r3.size⟩, ⟨P.r4.way, P.r4.size⟩, P.time, P.note, P.loose, P.force⟩ : Pol), ((((wayS x7).2) && (decide ((erv (countS x17 16)) = 0))) && (decide ((((l).take (1 : Int).toNat).length : Int) = 1))) && (ruledB 2 ⟨(wayS x7).1, okv (countS x17 16)⟩)) := by
    unfold ruleS
    rw [if_neg (by omega), if_pos (by rw [e0]; omega), e0, e1]
    rw [show decide (((l.take (1 : Int).toNat).length : Int) = 1) = true from decide_eq_true (by rw [List.length_take]; omega), Bool.and_true]
    rfl
   exact ⟨_, [(bp, Cells 26 [(0, .int .i64 P.r0.way), (1, .int .i64 P.r0.size), (2, .int .i64 P.r1.way), (3, .int .i64 P.r1.size), (4, .int .i64 ((wayS x7).1)), (5, .int .i64 (okv (countS x17 16))), (6, .int .i64 P.r3.way), (7, .int .i64 P.r3.size), (8, .int .i64 P.r4.way), (9, .int .i64 P.r4.size), (10, .int .i64 P.time), (11, .int .i64 P.note), (12, .bool P.loose), (13, .bool P.force)])], HS.stop (by simp), by rw [he] <;> rfl, by rw [he] <;> rfl⟩
  ·have h16r := h16; try simp only [zz1, zz2, zz3, zz4, zz5, zz6, zz7, zz8, zz9, zza, zzb] at h16
   refine wp_skip ?_
   refine hK10 _ _ ?_; clear hK10
   refine wp_seq_k (fun K38 hK37 => ?_)
   replace HS := HS.conv (L2 := [(0, _), (1, _)]) (.here .here) ⟨rfl, rfl, trivial⟩
   replace HE := HE.cut (L' := [(0, .pointer (some ⟨bp, 0, none⟩)), (1, .slice (some ⟨eb7, eo7, none⟩) l.length c), (2, .pointer (some ⟨bd, 0, none⟩)), (5, .bool false), (6, .int .i64 ((wayS x7).1)), (7, .bool ((wayS x7).2)), (8, .pointer (some ⟨B8, 0, none⟩)), (11, .slice (some ⟨eb7, eo7, none⟩) l.length c), (12, .int .i64 (l.length : Int)), (13, .bool (decide ((l.length : Int) = 0))), (14, .tuple #[.int .i64 ((wayS x7).1), .bool ((wayS x7).2)]), (15, .slice (some ⟨eb7, eo7, none⟩) l.length c), (16, .pointer (some ⟨eb7, eo7 + (0 : Int).toNat * 1, none⟩)), (17, str x7), (18, .tuple #[.int .i64 ((wayS x7).1), .bool ((wayS x7).2)]), (19, .int .i64 ((wayS x7).1)), (20, .bool ((wayS x7).2)), (21, .int .i64 ((wayS x7).1)), (22, .agg #[.int .i64 ((wayS x7).1), .int .i64 0]), (29, .bool ((decide (((wayS x7).1) = 2)) && (decide ((l.length : Int) = 2))))]) ⟨rfl, rfl, rfl, rfl, rfl, rfl, rfl, rfl, rfl, rfl, rfl, rfl, rfl, rfl, rfl, rfl, rfl, rfl, rfl, rfl, trivial⟩
   refine drawnF (fun f G' w => Heap.le G G' ∧ St w0 G [bp] G' w [[(B8, Cells 23 [(0, .int .i64 ((wayS x7).1)), (1, .int .i64 0)])], [(bp, Cells 26 [(0, .int .i64 P.r0.way), (1, .int .i64 P.r0.size), (2, .int .i64 P.r1.way), (3, .int .i64 P.r1.size), (4, bif f 6 then .int .i64 ((wayS x7).1) else .int .i64 P.r2.way), (5, bif f 6 then .int .i64 0 else .int .i64 P.r2.size), (6, .int .i64 P.r3.way), (7, .int .i64 P.r3.size), (8, .int .i64 P.r4.way), (9, .int .i64 P.r4.size), (10, .int .i64 P.time), (11, .int .i64 P.note), (12, .bool P.loose), (13, .bool P.force)])]]) [fun v _ => v = .pointer (some ⟨bp, 0, none⟩), fun v _ => v = .int .i64 2, fun v _ => v = .agg #[.int .i64 ((wayS x7).1), .int .i64 0], fun v _ => v = .pointer (some ⟨bp, 0, none⟩), fun v _ => v = .pointer (some ⟨bp, 0, none⟩), fun v _ => v = .pointer (some ⟨bp, 4, none⟩), fun _ _ => True] [] T.mix rfl HE ⟨Heap.le.refl _, HS.drew⟩ rfl (by simp) (AllM.get ⟨fun _ _ _ _ h => h, fun _ _ _ _ h => h, fun _ _ _ _ h => h, fun _ _ _ _ h => h, fun _ _ _ _ h => h, fun _ _ _ _ h => h, fun _ _ _ _ h => h, trivial⟩) ⟨?_, ?_, ?_, ?_, ?_, ?_, ?_, trivial⟩ ?_
   ·intro a w G1 f hcl hfi hon hW HE hp hO; obtain ⟨hl, HS⟩ := hW
    refine o_move HE rfl rfl ?_; clear HE; intro a HE
    exact ⟨_, _, Heap.le.refl _, ⟨hl, HS⟩, fun d hd => (by cases hd; exact HE.get _ _ rfl), HE.defers, rfl⟩
   ·intro a w G1 f hcl hfi hon hW HE hp hO; obtain ⟨hl, HS⟩ := hW
    refine o_ldI HE rfl HS rfl T.s3 (hCd.le hl) (j := 0) rfl rfl ?_; clear HE; intro a HE
    exact ⟨_, _, Heap.le.refl _, ⟨hl, HS⟩, fun d hd => (by cases hd; exact HE.get _ _ rfl), HE.defers, rfl⟩
   ·intro a w G1 f hcl hfi hon hW HE hp hO; obtain ⟨hl, HS⟩ := hW
    refine o_ldA HE rfl HS rfl T.a23 (.here .here) rfl ?_; clear HE; intro a HE
    exact ⟨_, _, Heap.le.refl _, ⟨hl, HS⟩, fun d hd => (by cases hd; exact HE.get _ _ rfl), HE.defers, rfl⟩
   ·intro a w G1 f hcl hfi hon hW HE hp hO; obtain ⟨hl, HS⟩ := hW
    obtain ⟨_, e0, rfl⟩ := hp 0 46 _ (hon 0 rfl) rfl rfl; replace HE := HE.add e0
    refine o_nil HE rfl rfl ?_; clear HE; intro a HE
    exact ⟨_, _, Heap.le.refl _, ⟨hl, HS⟩, fun d hd => (by cases hd; exact HE.get _ _ rfl), HE.defers, rfl⟩
   ·intro a w G1 f hcl hfi hon hW HE hp hO; obtain ⟨hl, HS⟩ := hW
    obtain ⟨_, e3, rfl⟩ := hp 3 49 _ (hon 3 rfl) rfl rfl; replace HE := HE.add e3
    refine o_fld HE rfl rfl T.f26_0 ?_; clear HE; intro a HE
    exact ⟨_, _, Heap.le.refl _, ⟨hl, HS⟩, fun d hd => (by cases hd; exact HE.get _ _ rfl), HE.defers, rfl⟩
   ·intro a w G1 f hcl hfi hon hW HE hp hO; obtain ⟨hl, HS⟩ := hW
    obtain ⟨_, e4, rfl⟩ := hp 4 50 _ (hon 4 rfl) rfl rfl; replace HE := HE.add e4
    obtain ⟨_, e1, rfl⟩ := hp 1 47 _ (hon 1 rfl) rfl rfl; replace HE := HE.add e1
    refine o_ixA HE rfl rfl rfl T.r24 (by decide) ?_; clear HE; intro a HE
    exact ⟨_, _, Heap.le.refl _, ⟨hl, HS⟩, fun d hd => (by cases hd; exact HE.get _ _ rfl), HE.defers, rfl⟩
   ·intro a w G1 f hcl hfi hon hW HE hp hO; obtain ⟨hl, HS⟩ := hW
    obtain ⟨_, e5, rfl⟩ := hp 5 51 _ (hon 5 rfl) rfl rfl; replace HE := HE.add e5
    obtain ⟨_, e2, rfl⟩ := hp 2 48 _ (hon 2 rfl) rfl rfl; replace HE := HE.add e2
    refine o_stA HE HS rfl rfl rfl T.a23 (.there (.here .here)) rfl ?_; clear HS; intro w HS
    replace HS := HS.conv (L2 := [(0, _), (1, _), (2, _), (3, _), (4, _), (5, _), (6, _), (7, _), (8, _), (9, _), (10, _), (11, _), (12, _), (13, _)]) (.there (.here .here)) ⟨rfl, rfl, rfl, rfl, rfl, rfl, rfl, rfl, rfl, rfl, rfl, rfl, rfl, rfl, trivial⟩
    exact ⟨.bool true, _, Heap.le.refl _, ⟨hl, HS⟩, fun d hd => (by cases hd), HE.defers, trivial⟩
   clear HE HS; intro a w G39 f hle40 hall HW HE hp; obtain ⟨_, HS⟩ := HW
   have hfw6 := hall 6 (by decide)
   simp only [hfw6, cond_true] at HS
   replace hR := hR.le hle40
   replace hCd := hCd.le hle40
   replace hgw := hgw.le hle40
   clear hp hall
   refine hK37 _ _ ?_; clear hK37
   refine wp_seq_k (fun K hK => ?_); refine wp_region_lit ?_
   refine o_move HE rfl rfl ?_; clear HE; intro a HE
   refine o_move HE rfl rfl ?_; clear HE; intro a HE
   refine cutL 4 (fun a' w' => w = w' ∧ Env a' 63 [] [(57, .bool (((wayS x7).2) && (decide ((l.length : Int) = 1)))), (0, .pointer (some ⟨bp, 0, none⟩)), (1, .slice (some ⟨eb7, eo7, none⟩) l.length c), (2, .pointer (some ⟨bd, 0, none⟩)), (5, .bool false), (6, .int .i64 ((wayS x7).1)), (7, .bool ((wayS x7).2)), (8, .pointer (some ⟨B8, 0, none⟩)), (11, .slice (some ⟨eb7, eo7, none⟩) l.length c), (12, .int .i64 (l.length : Int)), (13, .bool (decide ((l.length : Int) = 0))), (14, .tuple #[.int .i64 ((wayS x7).1), .bool ((wayS x7).2)]), (15, .slice (some ⟨eb7, eo7, none⟩) l.length c), (16, .pointer (some ⟨eb7, eo7 + (0 : Int).toNat * 1, none⟩)), (17, str x7), (18, .tuple #[.int .i64 ((wayS x7).1), .bool ((wayS x7).2)]), (19, .int .i64 ((wayS x7).1)), (20, .bool ((wayS x7).2)), (21, .int .i64 ((wayS x7).1)), (22, .agg #[.int .i64 ((wayS x7).1), .int .i64 0]), (29, .bool ((decide (((wayS x7).1) = 2)) && (decide ((l.length : Int) = 2))))]) ?_ ?_
   ·refine (Bool.eq_false_or_eq_true ((wayS x7).2)).elim (fun hb41 => ?_) (fun hb41 => ?_)
    ·skip
     have hk42 := hb41; try simp only [zz1, zz2, zz3, zz4, zz5, zz7, zz8, zz9, zza, zzb] at hk42
     refine op_on HE rfl rfl hb41 ?_
     refine o_move HE rfl rfl ?_; clear HE; intro a HE
     refine op_on HE rfl rfl hb41 ?_
     refine o_lenL HE rfl rfl Tryd.underlying29 ?_; clear HE; intro a HE
     refine op_on HE rfl rfl hb41 ?_
     refine o_eqI HE rfl rfl rfl ?_; clear HE; intro a HE
     refine o_pick_t HE rfl rfl hb41 rfl ?_; clear HE; intro a HE
     exact ⟨rfl, HE.cut ⟨by rw [hb41]; rfl, rfl, rfl, rfl, rfl, rfl, rfl, rfl, rfl, rfl, rfl, rfl, rfl, rfl, rfl, rfl, rfl, rfl, rfl, rfl, rfl, trivial⟩⟩
    ·skip
     have hk43 := hb41; try simp only [zz1, zz2, zz3, zz4, zz5, zz7, zz8, zz9, zza, zzb] at hk43
     refine g_off HE rfl rfl rfl hb41 ?_; clear HE; intro a HE
     refine g_off HE rfl rfl rfl hb41 ?_; clear HE; intro a HE
     refine g_off HE rfl rfl rfl hb41 ?_; clear HE; intro a HE
     refine o_pick_f HE rfl rfl hb41 rfl ?_; clear HE; intro a HE
     exact ⟨rfl, HE.cut ⟨by rw [hb41]; rfl, rfl, rfl, rfl, rfl, rfl, rfl, rfl, rfl, rfl, rfl, rfl, rfl, rfl, rfl, rfl, rfl, rfl, rfl, rfl, rfl, trivial⟩⟩
   clear HE; rintro a _ ⟨rfl, HE⟩
   refine o_move HE rfl rfl ?_; clear HE; intro a HE
   obtain ⟨M0, hM0, HS⟩ : ∃ M0, M0 = _ ∧ St w0 G [bp] G39 _ M0 := ⟨_, rfl, HS⟩
   refine cutL 4 (fun a' w' => St w0 G [bp] G39 w' M0 ∧ Env a' 63 [] [(62, .bool ((((wayS x7).2) && (decide ((l.length : Int) = 1))) && (ruledB 2 ⟨(wayS x7).1, 0⟩))), (0, .pointer (some ⟨bp, 0, none⟩)), (1, .slice (some ⟨eb7, eo7, none⟩) l.length c), (2, .pointer (some ⟨bd, 0, none⟩)), (5, .bool false), (6, .int .i64 ((wayS x7).1)), (7, .bool ((wayS x7).2)), (8, .pointer (some ⟨B8, 0, none⟩)), (11, .slice (some ⟨eb7, eo7, none⟩) l.length c), (12, .int .i64 (l.length : Int)), (13, .bool (decide ((l.length : Int) = 0))), (14, .tuple #[.int .i64 ((wayS x7).1), .bool ((wayS x7).2)]), (15, .slice (some ⟨eb7, eo7, none⟩) l.length c), (16, .pointer (some ⟨eb7, eo7 + (0 : Int).toNat * 1, none⟩)), (17, str x7), (18, .tuple #[.int .i64 ((wayS x7).1), .bool ((wayS x7).2)]), (19, .int .i64 ((wayS x7).1)), (20, .bool ((wayS x7).2)), (21, .int .i64 ((wayS x7).1)), (22, .agg #[.int .i64 ((wayS x7).1), .int .i64 0]), (29, .bool ((decide (((wayS x7).1) = 2)) && (decide ((l.length : Int) = 2))))]) ?_ ?_
   ·refine (Bool.eq_false_or_eq_true (((wayS x7).2) && (decide ((l.length : Int) = 1)))).elim (fun hb44 => ?_) (fun hb44 => ?_)
    ·subst hM0
     have hk45 := hb44; try simp only [zz1, zz2, zz3, zz4, zz5, zz7, zz8, zz9, zza, zzb] at hk45
     refine op_on HE rfl rfl hb44 ?_
     refine o_ldI HE rfl HS rfl T.s3 hCd (j := 0) rfl rfl ?_; clear HE; intro a HE
     refine op_on HE rfl rfl hb44 ?_
     refine o_ldA HE rfl HS rfl T.a23 (.here .here) rfl ?_; clear HE; intro a HE
     refine op_on HE rfl rfl hb44 ?_
     refine o_callP HE rfl HS rfl rfl T.g41 (c_ruled 2 (⟨(wayS x7).1, 0⟩ : Rul) _ _ HS.sub) ?_
     clear HE HS; rintro _ w a HS rfl HE
     refine o_pick_t HE rfl rfl hb44 rfl ?_; clear HE; intro a HE
     exact ⟨HS, HE.cut ⟨by rw [hb44]; rfl, rfl, rfl, rfl, rfl, rfl, rfl, rfl, rfl, rfl, rfl, rfl, rfl, rfl, rfl, rfl, rfl, rfl, rfl, rfl, rfl, trivial⟩⟩
    ·subst hM0
     have hk46 := hb44; try simp only [zz1, zz2, zz3, zz4, zz5, zz7, zz8, zz9, zza, zzb] at hk46
     refine g_off HE rfl rfl rfl hb44 ?_; clear HE; intro a HE
     refine g_off HE rfl rfl rfl hb44 ?_; clear HE; intro a HE
     refine g_off HE rfl rfl rfl hb44 ?_; clear HE; intro a HE
     refine o_pick_f HE rfl rfl hb44 rfl ?_; clear HE; intro a HE
     exact ⟨HS, HE.cut ⟨by rw [hb44]; rfl, rfl, rfl, rfl, rfl, rfl, rfl, rfl, rfl, rfl, rfl, rfl, rfl, rfl, rfl, rfl, rfl, rfl, rfl, rfl, rfl, trivial⟩⟩
   clear HE HS; rintro a w ⟨HS, HE⟩; subst hM0
   refine o_assign HE rfl rfl ?_; clear HE; intro a HE
   refine hK _ _ ?_; clear hK K
   refine wp_ret ?_
   show Q .ret _ _
   refine ret hQ HE rfl (HE.res rfl .nil) ?_
   replace HS := HS.drop (M' := [_]) (sub_drop (sub_keep sub_nil))
   have e0 : w0S l = wayS x7 := by unfold w0S; rw [get0 ex7]
   have he : ruleS 2 P l = ((⟨⟨P.r0.way, P.r0.size⟩, ⟨P.r1.way, P.r1.size⟩, ⟨(wayS x7).1, 0⟩, ⟨P.r3.way, P.r3.size⟩, ⟨P.r4.way, P.r4.size⟩, P.time, P.note, P.loose, P.force⟩ : Pol), (((wayS x7).2) && (decide ((l.length : Int) = 1))) && (ruledB 2 ⟨(wayS x7).1, 0⟩)) := by
    unfold ruleS
    rw [if_neg (by omega), if_neg (by rw [e0]; omega), e0]
    rw [show decide ((l.length : Int) = 1) = decide (l.length = 1) from decide_eq_decide.2 (by omega)]
    rfl
   exact ⟨_, [(bp, Cells 26 [(0, .int .i64 P.r0.way), (1, .int .i64 P.r0.size), (2, .int .i64 P.r1.way), (3, .int .i64 P.r1.size), (4, .int .i64 ((wayS x7).1)), (5, .int .i64 0), (6, .int .i64 P.r3.way), (7, .int .i64 P.r3.size), (8, .int .i64 P.r4.way), (9, .int .i64 P.r4.size), (10, .int .i64 P.time), (11, .int .i64 P.note), (12, .bool P.loose), (13, .bool P.force)])], HS.stop (by simp), by rw [he] <;> rfl, by rw [he] <;> rfl⟩

end Go.Proofs.YtiinipcmghhacaaDoor.T10
