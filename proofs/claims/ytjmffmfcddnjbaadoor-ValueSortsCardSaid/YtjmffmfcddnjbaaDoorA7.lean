/- ValueSorts walked. -/
import Derived.Test.YtjmffmfcddnjbaaDoorX21
import Derived.Test.YtjmffmfcddnjbaaDoorS2
import Derived.Test.YtjmffmfcddnjbaaDoorN9
import Derived.Test.YtjmffmfcddnjbaaDoorShelf
import Derived.Test.YtjmffmfcddnjbaaDoorN1
import Derived.Test.YtjmffmfcddnjbaaDoorN2
import Derived.Test.YtjmffmfcddnjbaaDoorN4
import Derived.Test.YtjmffmfcddnjbaaDoorProg
set_option linter.unusedVariables false
set_option linter.unusedSimpArgs false
namespace Go.Proofs.YtjmffmfcddnjbaaDoor.T7
open Go Go.Proofs.YtjmffmfcddnjbaaDoor.X
theorem T.a25 : aggSz Tryd.prog 25 = some 3 := by kernel_rfl
theorem T.c5_77 : convOk Tryd.prog 5 77 .u64 = true := by kernel_rfl
theorem T.c77_2 : convOk Tryd.prog 77 2 .i64 = true := by kernel_rfl
theorem T.f25_0 : fieldOff Tryd.prog 25 0 = some 0 := by kernel_rfl
theorem T.f25_1 : fieldOff Tryd.prog 25 1 = some 1 := by kernel_rfl
theorem T.f25_2 : fieldOff Tryd.prog 25 2 = some 2 := by kernel_rfl
theorem T.g10 : goFn Tryd.prog 10 = true := by kernel_rfl
theorem T.g11 : goFn Tryd.prog 11 = true := by kernel_rfl
theorem T.g13 : goFn Tryd.prog 13 = true := by kernel_rfl
theorem T.g15 : goFn Tryd.prog 15 = true := by kernel_rfl
theorem T.g20 : goFn Tryd.prog 20 = true := by kernel_rfl
theorem T.g22 : goFn Tryd.prog 22 = true := by kernel_rfl
theorem T.g23 : goFn Tryd.prog 23 = true := by kernel_rfl
theorem T.g24 : goFn Tryd.prog 24 = true := by kernel_rfl
theorem T.g32 : goFn Tryd.prog 32 = true := by kernel_rfl
theorem T.g33 : goFn Tryd.prog 33 = true := by kernel_rfl
theorem T.g34 : goFn Tryd.prog 34 = true := by kernel_rfl
theorem T.g35 : goFn Tryd.prog 35 = true := by kernel_rfl
theorem T.g38 : goFn Tryd.prog 38 = true := by kernel_rfl
theorem T.g40 : goFn Tryd.prog 40 = true := by kernel_rfl
theorem T.g41 : goFn Tryd.prog 41 = true := by kernel_rfl
theorem T.g47 : goFn Tryd.prog 47 = true := by kernel_rfl
theorem T.g48 : goFn Tryd.prog 48 = true := by kernel_rfl
theorem T.g49 : goFn Tryd.prog 49 = true := by kernel_rfl
theorem T.g51 : goFn Tryd.prog 51 = true := by kernel_rfl
theorem T.g52 : goFn Tryd.prog 52 = true := by kernel_rfl
theorem T.g53 : goFn Tryd.prog 53 = true := by kernel_rfl
theorem T.g69 : goFn Tryd.prog 69 = true := by kernel_rfl
theorem T.i20 : Tryd.prog.underlying 20 = some (.interface (Tryd.prog.methodsAt 20)) := by kernel_rfl
theorem T.l37 : slOf Tryd.prog 37 = some (25, 3) := by kernel_rfl
theorem T.l71 : slOf Tryd.prog 71 = some (3, 1) := by kernel_rfl
theorem T.mix : Tryd.prog.follows .mixedOrders = true := by kernel_rfl
theorem T.n32 : notIf Tryd.prog 32 = true := by kernel_rfl
theorem T.p37 : apOf Tryd.prog 37 = some (25, 3, 32) := by kernel_rfl
theorem T.q25 : flatT Tryd.prog 25 = some [.int .i64, .int .i64, .str] := by kernel_rfl
theorem T.s2 : scal Tryd.prog 2 = true := by kernel_rfl
theorem T.s3 : scal Tryd.prog 3 = true := by kernel_rfl
theorem T.s32 : scal Tryd.prog 32 = true := by kernel_rfl
theorem T.s9 : scal Tryd.prog 9 = true := by kernel_rfl
theorem T.z2 : zeroOf Tryd.prog 2 = some (.int .i64 0) := by kernel_rfl
theorem T.z25 : zeroOf Tryd.prog 25 = some (.agg #[.int .i64 0, .int .i64 0, str []]) := by kernel_rfl
theorem T.z32 : zeroOf Tryd.prog 32 = some (.int .i64 0) := by kernel_rfl

def sizeS (s : Bs) (most : Int) : Except Int Int := if digitsB s = true then (if (dv s : Int) ≤ most then .ok (dv s) else .error 3) else .error 2
def countS (s : Bs) (most : Int) : Except Int Int := match sizeS s 9223372036854775807 with
  | .error e => .error e
  | .ok n => if most < 0 ∨ most < n then .error 3 else .ok n
def parseS (s : Bs) : Except Int Int :=
  if s = [] ∨ bt s 0 ≠ 45 then sizeS s 9223372036854775807
  else match sizeS (s.drop 1) 9223372036854775808 with
    | .error e => .error e
    | .ok n => if n = 0 then .error 2 else .ok (-n)
theorem dig_of {s : Bs} {i : Nat} (hi : i < s.length) (h1 : 48 ≤ bt s i) (h2 : bt s i ≤ 57) : digB s[i] = true := by
  rw [bt_nat hi] at h1 h2
  simp only [digB, Bool.and_eq_true, decide_eq_true_eq]
  omega
theorem dig_at {s : Bs} (h : s.all digB = true) {i : Nat} (hi : i < s.length) : 48 ≤ bt s i ∧ bt s i ≤ 57 := by
  have := List.all_eq_true.1 h _ (List.getElem_mem hi)
  simp only [digB, Bool.and_eq_true, decide_eq_true_eq] at this
  rw [bt_nat hi]
  omega
theorem digits_all {s : Bs} (h : digitsB s = true) : s.all digB = true := by simp only [digitsB, Bool.and_eq_true] at h; exact h.1
theorem digits_pos {s : Bs} (h : digitsB s = true) : 0 < s.length := by simp only [digitsB, Bool.and_eq_true, decide_eq_true_eq] at h; exact h.2.1
theorem digits_no {s : Bs} {i : Nat} (hi : i < s.length) (h : bt s i < 48 ∨ 57 < bt s i) : digitsB s = false := by
  cases hd : digitsB s with
  | false => rfl
  | true => have := dig_at (digits_all hd) hi; omega
theorem digits_eq {s : Bs} (h : s.all digB = true) : (decide (0 < (s.length : Int)) && (decide ((s.length : Int) = 1) || !decide (bt s 0 = 48))) = digitsB s := by
  unfold digitsB
  rw [h, Bool.true_and]
  have e1 : decide (0 < (s.length : Int)) = decide (0 < s.length) := decide_eq_decide.2 (by omega)
  have e2 : decide ((s.length : Int) = 1) = decide (s.length = 1) := decide_eq_decide.2 (by omega)
  rw [e1, e2]
theorem digits_of {s : Bs} (h : s.all digB = true) (h1 : ¬ s = []) (h2 : ¬ bt s 0 = 48 ∨ ¬ 1 < (s.length : Int)) : digitsB s = true := by
  rw [← digits_eq h]
  have h0 : 0 < s.length := List.length_pos_iff.2 h1
  simp only [Bool.and_eq_true, Bool.or_eq_true, decide_eq_true_eq, Bool.not_eq_true', decide_eq_false_iff_not]
  refine ⟨by omega, ?_⟩
  rcases h2 with h2 | h2
  · exact .inr h2
  · exact .inl (by omega)
theorem size_no {s : Bs} {most : Int} (h : digitsB s = false) : sizeS s most = .error 2 := by simp [sizeS, h]
theorem size_e2a {s : Bs} {most : Int} (h : s = [] ∨ bt s 0 = 48 ∧ 1 < (s.length : Int)) : sizeS s most = .error 2 := by
  refine size_no ?_
  cases hd : digitsB s with
  | false => rfl
  | true =>
    have h0 := digits_pos hd
    have h1 := digits_all hd
    rw [← digits_eq h1] at hd
    simp only [Bool.and_eq_true, Bool.or_eq_true, decide_eq_true_eq, Bool.not_eq_true', decide_eq_false_iff_not] at hd
    rcases h with rfl | h
    · simp at h0
    · omega
theorem size_e2b {s : Bs} {most : Int} {i : Nat} (hi : i < s.length) (h : bt s i < 48 ∨ 57 < bt s i) : sizeS s most = .error 2 := size_no (digits_no hi h)
theorem dv_step {s : Bs} (h : s.all digB = true) {j : Nat} (hj : j < s.length) : ((dv (s.take (j + 1)) : Nat) : Int) = (dv (s.take j) : Int) * 10 + (bt s j - 48) := by
  have := dig_at h hj
  rw [bt_nat hj] at this ⊢
  rw [dv_take hj]
  omega
theorem size_e3 {s : Bs} {most : Int} (hd : digitsB s = true) {j : Nat} (hj : j < s.length) (h : most < (dv (s.take j) : Int) * 10 + (bt s j - 48)) : sizeS s most = .error 3 := by
  rw [← dv_step (digits_all hd) hj] at h
  have := dv_mono s (j + 1)
  unfold sizeS
  rw [if_pos hd, if_neg (by omega)]
theorem size_ok {s : Bs} {most : Int} (hd : digitsB s = true) (h : (dv s : Int) ≤ most) : sizeS s most = .ok (dv s : Int) := by
  unfold sizeS
  rw [if_pos hd, if_pos h]
theorem size_bound {s : Bs} {most n : Int} (h : sizeS s most = .ok n) : 0 ≤ n ∧ n ≤ most := by
  unfold sizeS at h
  split at h
  · split at h
    · cases h; omega
    · cases h
  · cases h
def maxP : Bs := [57, 50, 50, 51, 51, 55, 50, 48, 51, 54, 56, 53, 52, 55, 55, 53, 56, 48, 55]
def maxN : Bs := [57, 50, 50, 51, 51, 55, 50, 48, 51, 54, 56, 53, 52, 55, 55, 53, 56, 48, 56]
theorem least_p {s : Bs} (h : digitsB s = true) : leastB s maxP = decide ((dv s : Int) ≤ 9223372036854775807) := by
  rw [least_iff h (by decide), show dv maxP = 9223372036854775807 by decide]
  exact decide_eq_decide.2 (by omega)
theorem least_n {s : Bs} (h : digitsB s = true) : leastB s maxN = decide ((dv s : Int) ≤ 9223372036854775808) := by
  rw [least_iff h (by decide), show dv maxN = 9223372036854775808 by decide]
  exact decide_eq_decide.2 (by omega)
theorem dv_zero {s : Bs} (hd : digitsB s = true) (hn : ¬ s = [48]) : ¬ (dv s : Int) = 0 := by
  intro e
  have h1 := digits_all hd
  have h0 := digits_pos hd
  rcases Nat.lt_or_ge 1 s.length with h | h
  · have := dv_ge hd h
    have := Nat.pow_pos (a := 10) (n := s.length - 1) (by decide)
    omega
  · match s, h0, h with
    | [b], _, _ =>
      have h2 := dig_at h1 (i := 0) (by simp)
      have h3 : bt [b] ((0 : Nat) : Int) = (b.toNat : Int) := rfl
      rw [h3] at h2
      have h4 : dv [b] = 0 * 10 + (b.toNat - 48) := rfl
      have h5 : b.toNat = 48 := by omega
      exact hn (by rw [show b = 48 from UInt8.toNat_inj.1 h5])
theorem size_big {s : Bs} {most : Int} (hd : digitsB s = true) (h : ¬ (dv s : Int) ≤ most) : sizeS s most = .error 3 := by
  unfold sizeS
  rw [if_pos hd, if_neg h]
theorem parse_neg {s : Bs} (h0 : 0 < (s.length : Int) ∧ bt s 0 = 45) : parseS s = match sizeS (s.drop 1) 9223372036854775808 with
    | .error e => .error e
    | .ok n => if n = 0 then .error 2 else .ok (-n) := by
  unfold parseS
  rw [if_neg]
  rintro (h | h)
  · subst h; simp at h0
  · exact h h0.2
theorem parse_pos {s : Bs} (h0 : ¬ 0 < (s.length : Int) ∨ ¬ bt s 0 = 45) : parseS s = sizeS s 9223372036854775807 := by
  unfold parseS
  rw [if_pos]
  rcases h0 with h | h
  · left; exact List.eq_nil_of_length_eq_zero (by omega)
  · exact .inr h
theorem parse_n2 {s : Bs} (h0 : 0 < (s.length : Int) ∧ bt s 0 = 45) (h : digitsB (s.drop 1) = false ∨ s.drop 1 = [48]) : parseS s = .error 2 := by
  rw [parse_neg h0]
  rcases h with h | h
  · rw [size_no h]
  · rw [h]; rfl
theorem parse_n3 {s : Bs} (h0 : 0 < (s.length : Int) ∧ bt s 0 = 45) (hd : digitsB (s.drop 1) = true) (hl : leastB (s.drop 1) maxN = false) : parseS s = .error 3 := by
  rw [parse_neg h0]
  rw [least_n hd, decide_eq_false_iff_not] at hl
  rw [size_big hd hl]
theorem parse_nok {s : Bs} (h0 : 0 < (s.length : Int) ∧ bt s 0 = 45) (hd : digitsB (s.drop 1) = true) (hn : ¬ s.drop 1 = [48]) (hb : (dv (s.drop 1) : Int) ≤ 9223372036854775808) : parseS s = .ok (-(dv (s.drop 1) : Int)) := by
  rw [parse_neg h0, size_ok hd hb]
  exact if_neg (dv_zero hd hn)
theorem parse_p3 {s : Bs} (h0 : ¬ 0 < (s.length : Int) ∨ ¬ bt s 0 = 45) (hd : digitsB s = true) (hl : leastB s maxP = false) : parseS s = .error 3 := by
  rw [least_p hd, decide_eq_false_iff_not] at hl
  rw [parse_pos h0, size_big hd hl]
theorem count_digits {s : Bs} {most : Int} (hd : digitsB s = true) : countS s most = if ¬ erv (parseS s) = 0 ∨ most < okv (parseS s) then .error 3 else .ok (okv (parseS s)) := by
  have h1 := dig_at (digits_all hd) (i := 0) (digits_pos hd)
  have e : parseS s = sizeS s 9223372036854775807 := parse_pos (.inr (by
    have : bt s ((0 : Nat) : Int) = bt s 0 := rfl
    omega))
  unfold countS
  rw [e]
  by_cases hb : (dv s : Int) ≤ 9223372036854775807
  · rw [size_ok hd hb]
    show (if most < 0 ∨ most < (dv s : Int) then Except.error 3 else Except.ok (dv s : Int)) = if ¬ (0 : Int) = 0 ∨ most < (dv s : Int) then Except.error 3 else Except.ok (dv s : Int)
    by_cases h : most < (dv s : Int)
    · rw [if_pos (.inr h), if_pos (.inr h)]
    · rw [if_neg (by omega), if_neg (by omega)]
  · rw [size_big hd hb]
    show Except.error 3 = if ¬ (3 : Int) = 0 ∨ most < 0 then Except.error 3 else Except.ok 0
    rw [if_pos (.inl (by decide))]
theorem drop_len {s : Bs} (h : 0 < (s.length : Int)) : (s.drop 1).length + 1 = s.length := by simp; omega

def lowB (c : Int) : Bool := decide (97 ≤ c) && decide (c ≤ 122)
def letterB (c : Int) (first : Bool) : Bool := lowB c || (!first && (decide (c = 95) || (decide (48 ≤ c) && decide (c ≤ 57))))
theorem letter_eq (c : Int) : (((decide (97 ≤ c) && decide (c ≤ 122)) || (decide (48 ≤ c) && decide (c ≤ 57))) || decide (c = 95)) = letterB c false := by
  unfold letterB lowB
  cases decide (97 ≤ c) <;> cases decide (c ≤ 122) <;> cases decide (48 ≤ c) <;> cases decide (c ≤ 57) <;> cases decide (c = 95) <;> rfl
def isWordB (s : Bs) : Bool := (decide (1 ≤ s.length) && decide (s.length ≤ 40)) && (lowB (bt s 0) && s.all fun c => letterB (c.toNat : Int) false)
theorem all_snoc {α : Type} {p : α → Bool} {s : List α} {i : Nat} (h : i < s.length) : (s.take (i + 1)).all p = ((s.take i).all p && p s[i]) := by
  rw [List.take_add_one, List.getElem?_eq_getElem h, List.all_append]
  simp
theorem all_not {α : Type} {p : α → Bool} {s : List α} {i : Nat} (h : i < s.length) (hp : p s[i] = false) : s.all p = false := by
  cases ha : s.all p with
  | false => rfl
  | true => rw [List.all_eq_true.1 ha _ (List.getElem_mem h)] at hp; cases hp
def wordC (c : UInt8) : Bool := letterB (c.toNat : Int) false
theorem word_def (s : Bs) : isWordB s = ((decide (1 ≤ s.length) && decide (s.length ≤ 40)) && (lowB (bt s 0) && s.all wordC)) := rfl
theorem word_ref_no {s : Bs} {i : Nat} (hi : i < s.length) (h : letterB (bt s (i : Int)) (decide ((i : Int) = 0)) = false) : isWordB s = false := by
  by_cases h0 : i = 0
  · subst h0
    have e : bt s ((0 : Nat) : Int) = bt s 0 := rfl
    rw [e] at h
    have hl : lowB (bt s 0) = false := by
      simp only [letterB, Bool.or_eq_false_iff] at h
      exact h.1
    rw [word_def, hl]; simp
  · have e : decide ((i : Int) = 0) = false := by simp; omega
    rw [e] at h
    rw [word_def, all_not hi (by unfold wordC; rw [← bt_nat hi]; exact h)]; simp
theorem word_ref {s : Bs} (ha : ∀ j, j < s.length → letterB (bt s (j : Int)) (decide ((j : Int) = 0)) = true) : (decide (1 ≤ (s.length : Int)) && decide ((s.length : Int) ≤ 40)) = isWordB s := by
  rw [word_def, show decide (1 ≤ (s.length : Int)) = decide (1 ≤ s.length) from decide_eq_decide.2 (by omega), show decide ((s.length : Int) ≤ 40) = decide (s.length ≤ 40) from decide_eq_decide.2 (by omega)]
  by_cases h0 : 1 ≤ s.length
  · have h1 : lowB (bt s 0) = true := by
      have := ha 0 (by omega)
      have e : bt s ((0 : Nat) : Int) = bt s 0 := rfl
      rw [e] at this
      simpa [letterB] using this
    have h2 : s.all wordC = true := by
      rw [List.all_eq_true]
      intro x hx
      obtain ⟨j, hj, rfl⟩ := List.mem_iff_getElem.1 hx
      have h3 := ha j hj
      rw [bt_nat hj] at h3
      unfold wordC
      by_cases e : j = 0
      · subst e
        simp only [letterB] at h3 ⊢
        simp at h3 ⊢
        exact .inl h3
      · have e2 : decide ((j : Int) = 0) = false := by simp; omega
        rw [e2] at h3
        exact h3
    rw [h1, h2]; simp
  · rw [decide_eq_false h0]; simp
def parseV (s : Bs) : Val × Int :=
  if s = [126] then (⟨0, 0, []⟩, 0) else if s = [84] then (⟨3, 1, []⟩, 0) else if s = [70] then (⟨3, 0, []⟩, 0)
  else if isWordB s = true then (⟨2, 0, s⟩, 0) else if ¬ erv (parseS s) = 0 then (⟨0, 0, []⟩, erv (parseS s)) else (⟨1, okv (parseS s), []⟩, 0)
theorem wordC_bt {s : Bs} {i : Nat} (h : i < s.length) : wordC s[i] = letterB (bt s i) false := by unfold wordC; rw [bt_nat h]
theorem word_len {s : Bs} (h : s = [] ∨ 40 < (s.length : Int)) : isWordB s = false := by
  rw [word_def]
  have : (decide (1 ≤ s.length) && decide (s.length ≤ 40)) = false := by
    simp only [Bool.and_eq_false_iff, decide_eq_false_iff_not]
    rcases h with rfl | h
    · left; simp
    · right; omega
  rw [this]; rfl
theorem word_first {s : Bs} (h : bt s 0 < 97 ∨ 122 < bt s 0) : isWordB s = false := by
  rw [word_def]
  have : lowB (bt s 0) = false := by simp only [lowB, Bool.and_eq_false_iff, decide_eq_false_iff_not]; omega
  rw [this]; simp
theorem word_at {s : Bs} {i : Nat} (hi : i < s.length) (h : letterB (bt s i) false = false) : isWordB s = false := by
  rw [word_def, all_not hi (by rw [wordC_bt hi]; exact h)]; simp
theorem word_yes {s : Bs} (h0 : ¬ s = []) (h1 : ¬ 40 < (s.length : Int)) (h2 : ¬ bt s 0 < 97) (h3 : ¬ 122 < bt s 0) (h4 : s.all wordC = true) : isWordB s = true := by
  have := List.length_pos_iff.2 h0
  rw [word_def, h4]
  simp only [lowB, Bool.and_true, Bool.and_eq_true, decide_eq_true_eq]
  omega
theorem ok_size {s : Bs} {most n : Int} (h : sizeS s most = .ok n) : digitsB s = true ∧ n = (dv s : Int) := by
  unfold sizeS at h
  split at h
  · rename_i hd
    split at h
    · cases h; exact ⟨hd, rfl⟩
    · cases h
  · cases h
theorem size_err {s : Bs} {most e : Int} (h : sizeS s most = .error e) : ¬ e = 0 := by
  unfold sizeS at h
  split at h
  · split at h
    · cases h
    · cases h; decide
  · cases h; decide
theorem parse_err {s : Bs} {e : Int} (h : parseS s = .error e) : ¬ e = 0 := by
  unfold parseS at h
  split at h
  · exact size_err h
  · split at h
    · rename_i hm; cases h; exact size_err hm
    · split at h
      · cases h; decide
      · cases h
theorem bt0 {b : UInt8} {s : Bs} : bt (b :: s) 0 = (b.toNat : Int) := rfl
theorem dd_not45 (k : Nat) : ¬ bt (dd k) 0 = 45 := by
  have h := dig_at (dd_all k) (i := 0) (dd_pos k)
  have e : bt (dd k) ((0 : Nat) : Int) = bt (dd k) 0 := rfl
  rw [e] at h
  omega
theorem parse_itoa {n : Int} (hn : -9223372036854775808 ≤ n ∧ n ≤ 9223372036854775807) : parseS (Lib.itoa n) = .ok n := by
  by_cases h : 0 ≤ n
  · rw [itoa_nn h, parse_pos (.inr (dd_not45 _)), size_ok (dd_digits _) (by rw [dd_dv]; omega), dd_dv]
    rw [show ((n.toNat : Nat) : Int) = n by omega]
  · rw [itoa_ng (by omega)]
    rw [parse_nok (s := 45 :: dd n.natAbs) ⟨by simp, rfl⟩ (dd_digits _) (fun e => by
      have e1 : dd n.natAbs = [48] := e
      have := dd_dv n.natAbs
      rw [e1] at this
      have e2 : dv [48] = 0 := rfl
      omega) (by show (dv (dd n.natAbs) : Int) ≤ _; rw [dd_dv]; omega)]
    show Except.ok (-(dv (dd n.natAbs) : Int)) = _
    rw [dd_dv]
    congr 1
    omega
theorem itoa_parse {s : Bs} {n : Int} (h : parseS s = .ok n) : Lib.itoa n = s := by
  unfold parseS at h
  split at h
  · obtain ⟨hd, rfl⟩ := ok_size h
    rw [itoa_nn (by omega)]
    exact dd_of hd
  · rename_i hc
    simp only [not_or, ne_eq, Classical.not_not] at hc
    split at h
    · cases h
    · rename_i m hm
      split at h
      · cases h
      · rename_i h0
        cases h
        obtain ⟨hd, rfl⟩ := ok_size hm
        rw [itoa_ng (by omega), show (-(dv (s.drop 1) : Int)).natAbs = dv (s.drop 1) by omega, dd_of hd]
        match s, hc with
        | b :: r, hc =>
          have e : b = 45 := UInt8.toNat_inj.1 (by have := hc.2; rw [bt0] at this; simp; omega)
          rw [e]; rfl
theorem parse_range {s : Bs} {n : Int} (h : parseS s = .ok n) : -9223372036854775808 ≤ n ∧ n ≤ 9223372036854775807 := by
  unfold parseS at h
  split at h
  · have := size_bound h; omega
  · split at h
    · cases h
    · rename_i hm
      split at h
      · cases h
      · cases h
        have := size_bound hm
        omega
theorem okv_range {s : Bs} : I64 (okv (parseS s)) := by
  cases hp : parseS s with
  | error e => exact (by decide : I64 0)
  | ok n => exact parse_range hp
theorem itoa_inj {a b : Int} (ha : I64 a) (hb : I64 b) (h : Lib.itoa a = Lib.itoa b) : a = b := by
  have h1 := parse_itoa ha
  rw [h, parse_itoa hb] at h1
  cases h1; rfl
theorem itoa_eq {a b : Int} (ha : I64 a) (hb : I64 b) : (Lib.itoa a == Lib.itoa b) = decide (a = b) := by
  by_cases h : a = b
  · subst h; simp
  · rw [decide_eq_false h]
    simp only [beq_eq_false_iff_ne, ne_eq]
    exact fun e => h (itoa_inj ha hb e)
theorem itoa_len {a b : Int} (ha : ¬ a < 0) (hb : ¬ b < 0) (h : a ≤ b) : (Lib.itoa a).length ≤ (Lib.itoa b).length := by
  rw [itoa_nn (by omega), itoa_nn (by omega)]
  have h1 := least_iff (dd_digits a.toNat) (dd_digits b.toNat)
  rw [dd_dv, dd_dv, decide_eq_true (show a.toNat ≤ b.toNat by omega)] at h1
  unfold leastB at h1
  simp only [Bool.or_eq_true, Bool.and_eq_true, decide_eq_true_eq] at h1
  omega
def rightV (v : Val) : Bool :=
  if v.k = 0 then decide (v.n = 0) && v.s == [] else if v.k = 1 then v.s == [] else if v.k = 2 then decide (v.n = 0) && isWordB v.s
  else if v.k = 3 then (decide (v.n = 0) || decide (v.n = 1)) && v.s == [] else false
def printV (v : Val) : Bs :=
  if rightV v = false then [] else if v.k = 0 then [126] else if v.k = 1 then Lib.itoa v.n else if v.k = 2 then v.s else if v.n = 1 then [84] else [70]
theorem right3 {x : Val} (h : rightV x = true) (h0 : ¬ x.k = 0) (h1 : ¬ x.k = 1) (h2 : ¬ x.k = 2) : x.k = 3 ∧ x.s = [] := by
  unfold rightV at h
  rw [if_neg h0, if_neg h1, if_neg h2] at h
  split at h
  · rename_i h3
    simp only [Bool.and_eq_true, beq_iff_eq] at h
    exact ⟨h3, h.2⟩
  · cases h
theorem right0 {x : Val} (h : rightV x = true) (h1 : ¬ x.k = 1) (h2 : ¬ x.k = 2) (h3 : ¬ x.k = 3) : x.k = 0 := by
  by_cases h0 : x.k = 0
  · exact h0
  · exact absurd (right3 h h0 h1 h2).1 h3
theorem print_len {x : Val} (hv : x.Wf) : (printV x).length ≤ 9223372036854775807 := by
  unfold printV
  split
  · decide
  split
  · decide
  split
  · have := Lib.itoa_length_le x.n hv.n.1 hv.n.2; omega
  split
  · exact hv.s
  split
  · decide
  · decide
theorem parse_wf {s : Bs} (hl : s.length ≤ 9223372036854775807) : (parseV s).1.Wf := by
  have h0 : I64 0 := by decide
  have h3 : I64 3 := by decide
  have h1 : I64 1 := by decide
  have h2 : I64 2 := by decide
  have hz : ([] : Bs).length ≤ 9223372036854775807 := by decide
  unfold parseV
  split
  · exact ⟨h0, h0, hz⟩
  split
  · exact ⟨h3, h1, hz⟩
  split
  · exact ⟨h3, h0, hz⟩
  split
  · exact ⟨h2, h0, hl⟩
  split
  · exact ⟨h0, h0, hz⟩
  · refine ⟨h1, ?_, hz⟩
    show I64 (okv (parseS s))
    cases hp : parseS s with
    | error e => exact h0
    | ok n => exact parse_range hp
theorem word_low {s : Bs} (h : isWordB s = true) : 97 ≤ bt s 0 ∧ bt s 0 ≤ 122 := by
  rw [word_def] at h
  simp only [lowB, Bool.and_eq_true, decide_eq_true_eq] at h
  exact h.2.1
theorem itoa_first {n : Int} : bt (Lib.itoa n) 0 = 45 ∨ (48 ≤ bt (Lib.itoa n) 0 ∧ bt (Lib.itoa n) 0 ≤ 57) := by
  by_cases h : 0 ≤ n
  · rw [itoa_nn h]
    exact .inr (dig_at (dd_all _) (i := 0) (dd_pos _))
  · rw [itoa_ng (by omega)]; exact .inl rfl
theorem itoa_noword {n : Int} : isWordB (Lib.itoa n) = false := by
  cases h : isWordB (Lib.itoa n) with
  | false => rfl
  | true => have := word_low h; have := itoa_first (n := n); omega
theorem bt_one (b : UInt8) : bt [b] 0 = (b.toNat : Int) := rfl
theorem parse_print {v : Val} (hn : -9223372036854775808 ≤ v.n ∧ v.n ≤ 9223372036854775807) (h : rightV v = true) : parseV (printV v) = (v, 0) := by
  obtain ⟨k, n, s⟩ := v
  unfold printV
  rw [if_neg (by rw [h]; decide)]
  unfold rightV at h
  dsimp only at h hn ⊢
  split at h
  · rename_i h1
    subst h1
    simp only [Bool.and_eq_true, decide_eq_true_eq, beq_iff_eq] at h
    obtain ⟨rfl, rfl⟩ := h
    rfl
  · rename_i h1
    rw [if_neg h1]
    split at h
    · rename_i h2
      subst h2
      rw [if_pos rfl]
      have hs : s = [] := by simpa using h
      subst hs
      have hf := itoa_first (n := n)
      unfold parseV
      rw [if_neg (fun e => by rw [e, bt_one] at hf; revert hf; decide), if_neg (fun e => by rw [e, bt_one] at hf; revert hf; decide), if_neg (fun e => by rw [e, bt_one] at hf; revert hf; decide), if_neg (by rw [itoa_noword]; decide), parse_itoa hn]
      rfl
    · rename_i h2
      rw [if_neg h2]
      split at h
      · rename_i h3
        subst h3
        rw [if_pos rfl]
        simp only [Bool.and_eq_true, decide_eq_true_eq] at h
        obtain ⟨rfl, hw⟩ := h
        have hf := word_low hw
        unfold parseV
        rw [if_neg (fun e => by rw [e, bt_one] at hf; revert hf; decide), if_neg (fun e => by rw [e, bt_one] at hf; revert hf; decide), if_neg (fun e => by rw [e, bt_one] at hf; revert hf; decide), if_pos hw]
      · rename_i h3
        rw [if_neg h3]
        split at h
        · rename_i h4
          subst h4
          simp only [Bool.and_eq_true, Bool.or_eq_true, decide_eq_true_eq, beq_iff_eq] at h
          obtain ⟨hn', rfl⟩ := h
          rcases hn' with rfl | rfl
          · rfl
          · rfl
        · cases h
theorem print_parse {s : Bs} (h : (parseV s).2 = 0) : rightV (parseV s).1 = true ∧ printV (parseV s).1 = s := by
  revert h
  unfold parseV
  split
  · rename_i h1; intro _; subst h1; exact ⟨rfl, rfl⟩
  split
  · rename_i h1; intro _; subst h1; exact ⟨rfl, rfl⟩
  split
  · rename_i h1; intro _; subst h1; exact ⟨rfl, rfl⟩
  split
  · rename_i hw
    intro _
    have hr : rightV ⟨2, 0, s⟩ = true := by show (decide ((0 : Int) = 0) && isWordB s) = true; rw [hw]; rfl
    refine ⟨hr, ?_⟩
    unfold printV
    rw [if_neg (by rw [hr]; decide)]
    rfl
  split
  · rename_i he; intro h; exact absurd h he
  · rename_i he
    intro _
    refine ⟨rfl, ?_⟩
    simp only [Classical.not_not] at he
    show Lib.itoa (okv (parseS s)) = s
    cases hp : parseS s with
    | error e =>
      rw [hp] at he
      have he' : e = 0 := he
      exfalso
      exact parse_err hp he'
    | ok n => exact itoa_parse hp

theorem val_eq {a b : Val} (h : (decide (a.k = b.k) && (decide (a.n = b.n) && (a.s == b.s && true))) = true) : a = b := by
  obtain ⟨k, n, s⟩ := a
  obtain ⟨k', n', s'⟩ := b
  simp at h
  obtain ⟨rfl, rfl, rfl⟩ := h
  rfl
theorem val_ne {a b : Val} (h : (decide (a.k = b.k) && (decide (a.n = b.n) && (a.s == b.s && true))) = false) : ¬ a = b := by
  rintro rfl
  simp at h
theorem take_snoc_eq7 {α : Type} {a b : List α} {i : Nat} (h : a.take i = b.take i) (ha : i < a.length) (hb : i < b.length) (e : a[i] = b[i]) : a.take (i + 1) = b.take (i + 1) := by
  rw [List.take_add_one, List.take_add_one, h, List.getElem?_eq_getElem ha, List.getElem?_eq_getElem hb, e]
open TS in
theorem pos_down {x y : Val} {out : List Val} {k : Nat} {i : Int} (hi : i = (k : Int) + 1) (hk : k < out.length) (hy : out[k] = y) (hl : lessV x y = true) : posV x out (k + 1) = posV x out k := by
  conv => lhs; unfold posV
  rw [if_pos]
  rw [List.getD_eq_getElem?_getD, List.getElem?_eq_getElem hk, Option.getD_some, hy]
  exact hl
open TS in
theorem pos_stay {x y : Val} {out : List Val} {k : Nat} (hk : k < out.length) (hy : out[k] = y) (hl : lessV x y = false) : posV x out (k + 1) = k + 1 := by
  unfold posV
  rw [if_neg]
  rw [List.getD_eq_getElem?_getD, List.getElem?_eq_getElem hk, Option.getD_some, hy, hl]
  decide
/-! `incognito/num.size` -/
set_option maxRecDepth 100000 in
set_option maxHeartbeats 4000000 in
theorem c_size (s : Bs) (most : Int) (w0 : World) (G : Heap) (hG : Sub G w0) (hm : 9 ≤ most ∧ most ≤ 9223372036854775808) (hl : s.length ≤ 9223372036854775807):
    Calls Tryd.prog 53 #[str s, .int .u64 most] w0 (Throws w0 G 32 (fun v _ => ∃ n, sizeS s most = .ok n ∧ v = .int .u64 n) (fun e => sizeS s most = .error e)) := by
  refine enter Tryd.func53 rfl Tryd.ntmps53 rfl ?_
  intro Q hQ a HE
  have HS := St.start0 hG
  refine wp_seq_k (fun K hK => ?_); refine wp_region_lit ?_
  refine o_assign HE rfl rfl ?_; clear HE; intro a HE
  refine hK _ _ ?_; clear hK K
  refine wp_seq_k (fun K3 hK2 => ?_)
  refine wp_seq_k (fun K hK => ?_); refine wp_region_lit ?_
  refine o_move HE rfl rfl ?_; clear HE; intro a HE
  refine o_eqS HE rfl rfl rfl ?_; clear HE; intro a HE
  refine o_move HE rfl rfl ?_; clear HE; intro a HE
  refine cutL 9 (fun a' w' => w0 = w' ∧ Env a' 68 [] [(20, .bool ((s == []) || ((decide ((bt s 0) = 48)) && (decide (1 < (s.length : Int)))))), (0, str s), (1, .int .u64 most), (4, .int .u64 0)]) ?_ ?_
  · refine (Bool.eq_false_or_eq_true (s == [])).elim (fun hb4 => ?_) (fun hb4 => ?_)
    · skip
      have hk5 := hb4; try simp only [Bool.not_eq_true', Bool.not_eq_false', Bool.and_eq_true, Bool.or_eq_true, Bool.or_eq_false_iff, decide_eq_true_eq, decide_eq_false_iff_not, beq_iff_eq, beq_eq_false_iff_ne, ne_eq] at hk5
      refine g_off HE rfl rfl rfl hb4 ?_; clear HE; intro a HE
      refine g_off HE rfl rfl rfl hb4 ?_; clear HE; intro a HE
      refine g_off HE rfl rfl rfl hb4 ?_; clear HE; intro a HE
      refine g_off HE rfl rfl rfl hb4 ?_; clear HE; intro a HE
      refine g_offu HE rfl rfl rfl ?_; clear HE; intro a HE
      refine g_offu HE rfl rfl rfl ?_; clear HE; intro a HE
      refine g_offu HE rfl rfl rfl ?_; clear HE; intro a HE
      refine g_off HE rfl rfl rfl hb4 ?_; clear HE; intro a HE
      refine o_pick_t HE rfl rfl hb4 rfl ?_; clear HE; intro a HE
      exact ⟨rfl, HE.cut ⟨by rw [hb4]; rfl, rfl, rfl, rfl, trivial⟩⟩
    · skip
      have hk6 := hb4; try simp only [Bool.not_eq_true', Bool.not_eq_false', Bool.and_eq_true, Bool.or_eq_true, Bool.or_eq_false_iff, decide_eq_true_eq, decide_eq_false_iff_not, beq_iff_eq, beq_eq_false_iff_ne, ne_eq] at hk6
      refine op_on HE rfl rfl hb4 ?_
      refine o_move HE rfl rfl ?_; clear HE; intro a HE
      refine op_on HE rfl rfl hb4 ?_
      refine o_index HE rfl rfl rfl Tryd.underlying9 (by (have := List.length_pos_iff.2 (show s ≠ [] by assumption); omega)) ?_; clear HE; intro a HE
      refine op_on HE rfl rfl hb4 ?_
      refine o_eqI HE rfl rfl rfl ?_; clear HE; intro a HE
      refine op_on HE rfl rfl hb4 ?_
      refine o_move HE rfl rfl ?_; clear HE; intro a HE
      refine cutL 4 (fun a' w' => w0 = w' ∧ Env a' 68 [] [(19, .bool ((decide ((bt s 0) = 48)) && (decide (1 < (s.length : Int))))), (0, str s), (1, .int .u64 most), (4, .int .u64 0), (11, .bool (s == []))]) ?_ ?_
      · refine (Bool.eq_false_or_eq_true (decide ((bt s 0) = 48))).elim (fun hb7 => ?_) (fun hb7 => ?_)
        · skip
          have hk8 := hb7; try simp only [Bool.not_eq_true', Bool.not_eq_false', Bool.and_eq_true, Bool.or_eq_true, Bool.or_eq_false_iff, decide_eq_true_eq, decide_eq_false_iff_not, beq_iff_eq, beq_eq_false_iff_ne, ne_eq] at hk8
          refine op_on HE rfl rfl hb7 ?_
          refine o_move HE rfl rfl ?_; clear HE; intro a HE
          refine op_on HE rfl rfl hb7 ?_
          refine o_lenS HE rfl rfl Tryd.underlying9 ?_; clear HE; intro a HE
          refine op_on HE rfl rfl hb7 ?_
          refine o_gtr HE rfl rfl rfl ?_; clear HE; intro a HE
          refine op_on HE rfl rfl hb4 ?_
          refine o_pick_t HE rfl rfl hb7 rfl ?_; clear HE; intro a HE
          exact ⟨rfl, HE.cut ⟨by rw [hb7]; rfl, rfl, rfl, rfl, rfl, trivial⟩⟩
        · skip
          have hk9 := hb7; try simp only [Bool.not_eq_true', Bool.not_eq_false', Bool.and_eq_true, Bool.or_eq_true, Bool.or_eq_false_iff, decide_eq_true_eq, decide_eq_false_iff_not, beq_iff_eq, beq_eq_false_iff_ne, ne_eq] at hk9
          refine g_off HE rfl rfl rfl hb7 ?_; clear HE; intro a HE
          refine g_off HE rfl rfl rfl hb7 ?_; clear HE; intro a HE
          refine g_off HE rfl rfl rfl hb7 ?_; clear HE; intro a HE
          refine op_on HE rfl rfl hb4 ?_
          refine o_pick_f HE rfl rfl hb7 rfl ?_; clear HE; intro a HE
          exact ⟨rfl, HE.cut ⟨by rw [hb7]; rfl, rfl, rfl, rfl, rfl, trivial⟩⟩
      clear HE; rintro a _ ⟨rfl, HE⟩
      refine o_pick_f HE rfl rfl hb4 rfl ?_; clear HE; intro a HE
      exact ⟨rfl, HE.cut ⟨by rw [hb4]; rfl, rfl, rfl, rfl, trivial⟩⟩
  clear HE; rintro a _ ⟨rfl, HE⟩
  refine hK _ _ ?_; clear hK K
  refine cond HE rfl (fun h11 => ?_) (fun h11 => ?_)
  · have h11r := h11; try simp only [Bool.not_eq_true', Bool.not_eq_false', Bool.and_eq_true, Bool.or_eq_true, Bool.or_eq_false_iff, Bool.and_eq_false_iff, decide_eq_true_eq, decide_eq_false_iff_not, beq_iff_eq, beq_eq_false_iff_ne, ne_eq] at h11
    refine wp_region_lit ?_
    refine o_mkIf HE rfl rfl T.n32 ?_; clear HE; intro a HE
    refine o_panic HE rfl ?_
    show Q (.panic _) _ _
    exact throwX hQ HE ⟨_, _, HS.stop (List.nil_sublist _), rfl, _, (by first | exact size_e2a h11 | exact size_e2b (i := i) (by omega) h11 | exact size_e3 hdg (j := j) (by omega) (by omega)), rfl⟩
  · have h11r := h11; try simp only [Bool.not_eq_true', Bool.not_eq_false', Bool.and_eq_true, Bool.or_eq_true, Bool.or_eq_false_iff, Bool.and_eq_false_iff, decide_eq_true_eq, decide_eq_false_iff_not, beq_iff_eq, beq_eq_false_iff_ne, ne_eq] at h11
    refine wp_skip ?_
    refine hK2 _ _ ?_; clear hK2
    refine wp_seq_k (fun K13 hK12 => ?_)
    refine wp_seq_k (fun K hK => ?_); refine wp_region_lit ?_
    refine o_move HE rfl rfl ?_; clear HE; intro a HE
    refine o_lenS HE rfl rfl Tryd.underlying9 ?_; clear HE; intro a HE
    refine o_move HE rfl rfl ?_; clear HE; intro a HE
    refine hK _ _ ?_; clear hK K
    refine wp_block ?_
    refine loop (fun (i : Nat) a' w' => St w0 G [] G w' [] ∧ Env a' 68 [] [(0, str s), (1, .int .u64 most), (23, .int .i64 (s.length : Int)), (24, .int .i64 (i : Int))] ∧ (i ≤ s.length ∧ (s.take i).all digB = true)) (fun (i : Nat) => s.length - i) 0 ⟨HS, HE.cut ⟨rfl, rfl, rfl, rfl, trivial⟩, ⟨Nat.zero_le _, rfl⟩⟩ ?_
    clear HE HS; intro i a w ⟨HS, HE, ⟨hi, ha⟩⟩
    refine wp_seq_k (fun K hK => ?_); refine wp_region_lit ?_
    refine o_lss HE rfl rfl rfl ?_; clear HE; intro a HE
    refine hK _ _ ?_; clear hK K
    refine wp_seq_k (fun K18 hK17 => ?_)
    refine cond HE rfl (fun h19 => ?_) (fun h19 => ?_)
    · have h19r := h19; try simp only [Bool.not_eq_true', Bool.not_eq_false', Bool.and_eq_true, Bool.or_eq_true, Bool.or_eq_false_iff, Bool.and_eq_false_iff, decide_eq_true_eq, decide_eq_false_iff_not, beq_iff_eq, beq_eq_false_iff_ne, ne_eq] at h19
      refine wp_skip ?_
      refine hK17 _ _ ?_; clear hK17
      refine wp_seq_k (fun K21 hK20 => ?_)
      refine wp_block ?_
      refine wp_seq_k (fun K hK => ?_); refine wp_region_lit ?_
      refine o_move HE rfl rfl ?_; clear HE; intro a HE
      refine o_assign HE rfl rfl ?_; clear HE; intro a HE
      refine hK _ _ ?_; clear hK K
      refine wp_seq_k (fun K hK => ?_); refine wp_region_lit ?_
      refine o_move HE rfl rfl ?_; clear HE; intro a HE
      refine o_move HE rfl rfl ?_; clear HE; intro a HE
      refine o_index HE rfl rfl rfl Tryd.underlying9 (by omega) ?_; clear HE; intro a HE
      refine o_lss HE rfl rfl rfl ?_; clear HE; intro a HE
      refine o_move HE rfl rfl ?_; clear HE; intro a HE
      refine cutL 5 (fun a' w' => w = w' ∧ Env a' 68 [] [(36, .bool ((decide ((bt s (i : Int)) < 48)) || (decide (57 < (bt s (i : Int)))))), (0, str s), (1, .int .u64 most), (23, .int .i64 (s.length : Int)), (24, .int .i64 (i : Int)), (25, .bool (decide ((i : Int) < (s.length : Int)))), (26, .int .i64 (i : Int))]) ?_ ?_
      · refine (Bool.eq_false_or_eq_true (decide ((bt s (i : Int)) < 48))).elim (fun hb23 => ?_) (fun hb23 => ?_)
        · skip
          have hk24 := hb23; try simp only [Bool.not_eq_true', Bool.not_eq_false', Bool.and_eq_true, Bool.or_eq_true, Bool.or_eq_false_iff, decide_eq_true_eq, decide_eq_false_iff_not, beq_iff_eq, beq_eq_false_iff_ne, ne_eq] at hk24
          refine g_off HE rfl rfl rfl hb23 ?_; clear HE; intro a HE
          refine g_off HE rfl rfl rfl hb23 ?_; clear HE; intro a HE
          refine g_off HE rfl rfl rfl hb23 ?_; clear HE; intro a HE
          refine g_off HE rfl rfl rfl hb23 ?_; clear HE; intro a HE
          refine o_pick_t HE rfl rfl hb23 rfl ?_; clear HE; intro a HE
          exact ⟨rfl, HE.cut ⟨by rw [hb23]; rfl, rfl, rfl, rfl, rfl, rfl, rfl, trivial⟩⟩
        · skip
          have hk25 := hb23; try simp only [Bool.not_eq_true', Bool.not_eq_false', Bool.and_eq_true, Bool.or_eq_true, Bool.or_eq_false_iff, decide_eq_true_eq, decide_eq_false_iff_not, beq_iff_eq, beq_eq_false_iff_ne, ne_eq] at hk25
          refine op_on HE rfl rfl hb23 ?_
          refine o_move HE rfl rfl ?_; clear HE; intro a HE
          refine op_on HE rfl rfl hb23 ?_
          refine o_move HE rfl rfl ?_; clear HE; intro a HE
          refine op_on HE rfl rfl hb23 ?_
          refine o_index HE rfl rfl rfl Tryd.underlying9 (by omega) ?_; clear HE; intro a HE
          refine op_on HE rfl rfl hb23 ?_
          refine o_gtr HE rfl rfl rfl ?_; clear HE; intro a HE
          refine o_pick_f HE rfl rfl hb23 rfl ?_; clear HE; intro a HE
          exact ⟨rfl, HE.cut ⟨by rw [hb23]; rfl, rfl, rfl, rfl, rfl, rfl, rfl, trivial⟩⟩
      clear HE; rintro a _ ⟨rfl, HE⟩
      refine hK _ _ ?_; clear hK K
      refine cond HE rfl (fun h27 => ?_) (fun h27 => ?_)
      · have h27r := h27; try simp only [Bool.not_eq_true', Bool.not_eq_false', Bool.and_eq_true, Bool.or_eq_true, Bool.or_eq_false_iff, Bool.and_eq_false_iff, decide_eq_true_eq, decide_eq_false_iff_not, beq_iff_eq, beq_eq_false_iff_ne, ne_eq] at h27
        refine wp_region_lit ?_
        refine o_mkIf HE rfl rfl T.n32 ?_; clear HE; intro a HE
        refine o_panic HE rfl ?_
        show Q (.panic _) _ _
        exact throwX hQ HE ⟨_, _, HS.stop (List.nil_sublist _), rfl, _, (by first | exact size_e2a h27 | exact size_e2b (i := i) (by omega) h27 | exact size_e3 hdg (j := j) (by omega) (by omega)), rfl⟩
      · have h27r := h27; try simp only [Bool.not_eq_true', Bool.not_eq_false', Bool.and_eq_true, Bool.or_eq_true, Bool.or_eq_false_iff, Bool.and_eq_false_iff, decide_eq_true_eq, decide_eq_false_iff_not, beq_iff_eq, beq_eq_false_iff_ne, ne_eq] at h27
        refine wp_skip ?_
        refine hK20 _ _ ?_; clear hK20
        refine wp_region_lit ?_
        refine o_add HE rfl rfl rfl (by omega) ?_; clear HE; intro a HE
        refine o_move HE rfl rfl ?_; clear HE; intro a HE
        have hlt : i < s.length := by omega
        have ha2 : (s.take (i + 1)).all digB = true := by rw [all_take hlt, ha, dig_of hlt (by omega) (by omega)]; rfl
        exact ⟨i + 1, ⟨HS, HE.cut ⟨rfl, rfl, rfl, rfl, trivial⟩, ⟨by omega, ha2⟩⟩, by omega⟩
    · have h19r := h19; try simp only [Bool.not_eq_true', Bool.not_eq_false', Bool.and_eq_true, Bool.or_eq_true, Bool.or_eq_false_iff, Bool.and_eq_false_iff, decide_eq_true_eq, decide_eq_false_iff_not, beq_iff_eq, beq_eq_false_iff_ne, ne_eq] at h19
      refine wp_exit ?_
      refine hK12 _ _ ?_; clear hK12
      refine wp_seq_k (fun K hK => ?_); refine wp_region_lit ?_
      refine o_assign HE rfl rfl ?_; clear HE; intro a HE
      refine hK _ _ ?_; clear hK K
      refine wp_seq_k (fun K30 hK29 => ?_)
      refine wp_seq_k (fun K hK => ?_); refine wp_region_lit ?_
      refine o_move HE rfl rfl ?_; clear HE; intro a HE
      refine o_lenS HE rfl rfl Tryd.underlying9 ?_; clear HE; intro a HE
      refine o_move HE rfl rfl ?_; clear HE; intro a HE
      refine hK _ _ ?_; clear hK K
      refine wp_block ?_
      have hall : s.all digB = true := by rw [show i = s.length by omega, List.take_length] at ha; exact ha
      have hdg : digitsB s = true := digits_of hall h11.1 h11.2
      refine loop (fun (j : Nat) a' w' => St w0 G [] G w' [] ∧ Env a' 68 [] [(0, str s), (1, .int .u64 most), (6, .int .u64 ((dv (s.take j) : Nat) : Int)), (40, .int .i64 (s.length : Int)), (41, .int .i64 (j : Int))] ∧ (j ≤ s.length ∧ ((dv (s.take j) : Nat) : Int) ≤ most)) (fun (j : Nat) => s.length - j) 0 ⟨HS, HE.cut ⟨rfl, rfl, rfl, rfl, rfl, trivial⟩, ⟨Nat.zero_le _, by show ((0 : Nat) : Int) ≤ most; omega⟩⟩ ?_
      clear HE HS; intro j a w ⟨HS, HE, ⟨hj, hb⟩⟩
      refine wp_seq_k (fun K hK => ?_); refine wp_region_lit ?_
      refine o_lss HE rfl rfl rfl ?_; clear HE; intro a HE
      refine hK _ _ ?_; clear hK K
      refine wp_seq_k (fun K35 hK34 => ?_)
      refine cond HE rfl (fun h36 => ?_) (fun h36 => ?_)
      · have h36r := h36; try simp only [Bool.not_eq_true', Bool.not_eq_false', Bool.and_eq_true, Bool.or_eq_true, Bool.or_eq_false_iff, Bool.and_eq_false_iff, decide_eq_true_eq, decide_eq_false_iff_not, beq_iff_eq, beq_eq_false_iff_ne, ne_eq] at h36
        refine wp_skip ?_
        refine hK34 _ _ ?_; clear hK34
        refine wp_seq_k (fun K38 hK37 => ?_)
        refine wp_block ?_
        refine wp_seq_k (fun K hK => ?_); refine wp_region_lit ?_
        refine o_move HE rfl rfl ?_; clear HE; intro a HE
        refine o_assign HE rfl rfl ?_; clear HE; intro a HE
        refine hK _ _ ?_; clear hK K
        refine wp_seq_k (fun K hK => ?_); refine wp_region_lit ?_
        refine o_move HE rfl rfl ?_; clear HE; intro a HE
        refine o_move HE rfl rfl ?_; clear HE; intro a HE
        have hd : 48 ≤ bt s (j : Int) ∧ bt s (j : Int) ≤ 57 := dig_at hall (by omega)
        refine o_index HE rfl rfl rfl Tryd.underlying9 (by omega) ?_; clear HE; intro a HE
        refine o_subF HE rfl rfl rfl (wrap_u8 (by omega)) ?_; clear HE; intro a HE
        refine o_conv HE rfl rfl T.c5_77 (wrap_u64 (by omega)) ?_; clear HE; intro a HE
        refine o_assign HE rfl rfl ?_; clear HE; intro a HE
        refine hK _ _ ?_; clear hK K
        refine wp_seq_k (fun K42 hK41 => ?_)
        refine wp_seq_k (fun K hK => ?_); refine wp_region_lit ?_
        refine o_move HE rfl rfl ?_; clear HE; intro a HE
        refine o_move HE rfl rfl ?_; clear HE; intro a HE
        refine o_quoF HE rfl rfl rfl (by omega) (by rw [Int.tdiv_eq_ediv_of_nonneg (by omega)]; exact wrap_u64 (by omega)) ?_; clear HE; intro a HE
        refine o_gtr HE rfl rfl rfl ?_; clear HE; intro a HE
        refine o_move HE rfl rfl ?_; clear HE; intro a HE
        refine cutL 7 (fun a' w' => w = w' ∧ Env a' 68 [] [(60, .bool ((decide ((most / 10) < ((dv (s.take j) : Nat) : Int))) || (decide ((most - ((bt s (j : Int)) - 48)) < (((dv (s.take j) : Nat) : Int) * 10))))), (0, str s), (1, .int .u64 most), (6, .int .u64 ((dv (s.take j) : Nat) : Int)), (7, .int .i64 (j : Int)), (8, .int .u64 ((bt s (j : Int)) - 48)), (40, .int .i64 (s.length : Int)), (41, .int .i64 (j : Int)), (42, .bool (decide ((j : Int) < (s.length : Int)))), (43, .int .i64 (j : Int)), (44, str s), (45, .int .i64 (j : Int)), (46, .int .u8 (bt s (j : Int))), (47, .int .u8 ((bt s (j : Int)) - 48)), (48, .int .u64 ((bt s (j : Int)) - 48))]) ?_ ?_
        · refine (Bool.eq_false_or_eq_true (decide ((most / 10) < ((dv (s.take j) : Nat) : Int)))).elim (fun hb43 => ?_) (fun hb43 => ?_)
          · skip
            have hk44 := hb43; try simp only [Bool.not_eq_true', Bool.not_eq_false', Bool.and_eq_true, Bool.or_eq_true, Bool.or_eq_false_iff, decide_eq_true_eq, decide_eq_false_iff_not, beq_iff_eq, beq_eq_false_iff_ne, ne_eq] at hk44
            refine g_off HE rfl rfl rfl hb43 ?_; clear HE; intro a HE
            refine g_off HE rfl rfl rfl hb43 ?_; clear HE; intro a HE
            refine g_off HE rfl rfl rfl hb43 ?_; clear HE; intro a HE
            refine g_off HE rfl rfl rfl hb43 ?_; clear HE; intro a HE
            refine g_off HE rfl rfl rfl hb43 ?_; clear HE; intro a HE
            refine g_off HE rfl rfl rfl hb43 ?_; clear HE; intro a HE
            refine o_pick_t HE rfl rfl hb43 rfl ?_; clear HE; intro a HE
            exact ⟨rfl, HE.cut ⟨by rw [hb43]; rfl, rfl, rfl, rfl, rfl, rfl, rfl, rfl, rfl, rfl, rfl, rfl, rfl, rfl, rfl, trivial⟩⟩
          · skip
            have hk45 := hb43; try simp only [Bool.not_eq_true', Bool.not_eq_false', Bool.and_eq_true, Bool.or_eq_true, Bool.or_eq_false_iff, decide_eq_true_eq, decide_eq_false_iff_not, beq_iff_eq, beq_eq_false_iff_ne, ne_eq] at hk45
            refine op_on HE rfl rfl hb43 ?_
            refine o_move HE rfl rfl ?_; clear HE; intro a HE
            refine op_on HE rfl rfl hb43 ?_
            refine o_mulF HE rfl rfl rfl (wrap_u64 (by omega)) ?_; clear HE; intro a HE
            refine op_on HE rfl rfl hb43 ?_
            refine o_move HE rfl rfl ?_; clear HE; intro a HE
            refine op_on HE rfl rfl hb43 ?_
            refine o_move HE rfl rfl ?_; clear HE; intro a HE
            refine op_on HE rfl rfl hb43 ?_
            refine o_subF HE rfl rfl rfl (wrap_u64 (by omega)) ?_; clear HE; intro a HE
            refine op_on HE rfl rfl hb43 ?_
            refine o_gtr HE rfl rfl rfl ?_; clear HE; intro a HE
            refine o_pick_f HE rfl rfl hb43 rfl ?_; clear HE; intro a HE
            exact ⟨rfl, HE.cut ⟨by rw [hb43]; rfl, rfl, rfl, rfl, rfl, rfl, rfl, rfl, rfl, rfl, rfl, rfl, rfl, rfl, rfl, trivial⟩⟩
        clear HE; rintro a _ ⟨rfl, HE⟩
        refine hK _ _ ?_; clear hK K
        refine cond HE rfl (fun h47 => ?_) (fun h47 => ?_)
        · have h47r := h47; try simp only [Bool.not_eq_true', Bool.not_eq_false', Bool.and_eq_true, Bool.or_eq_true, Bool.or_eq_false_iff, Bool.and_eq_false_iff, decide_eq_true_eq, decide_eq_false_iff_not, beq_iff_eq, beq_eq_false_iff_ne, ne_eq] at h47
          refine wp_region_lit ?_
          refine o_mkIf HE rfl rfl T.n32 ?_; clear HE; intro a HE
          refine o_panic HE rfl ?_
          show Q (.panic _) _ _
          exact throwX hQ HE ⟨_, _, HS.stop (List.nil_sublist _), rfl, _, (by first | exact size_e2a h47 | exact size_e2b (i := i) (by omega) h47 | exact size_e3 hdg (j := j) (by omega) (by omega)), rfl⟩
        · have h47r := h47; try simp only [Bool.not_eq_true', Bool.not_eq_false', Bool.and_eq_true, Bool.or_eq_true, Bool.or_eq_false_iff, Bool.and_eq_false_iff, decide_eq_true_eq, decide_eq_false_iff_not, beq_iff_eq, beq_eq_false_iff_ne, ne_eq] at h47
          refine wp_skip ?_
          refine hK41 _ _ ?_; clear hK41
          refine wp_region_lit ?_
          refine o_move HE rfl rfl ?_; clear HE; intro a HE
          refine o_mulF HE rfl rfl rfl (wrap_u64 (by omega)) ?_; clear HE; intro a HE
          refine o_move HE rfl rfl ?_; clear HE; intro a HE
          refine o_addF HE rfl rfl rfl (wrap_u64 (by omega)) ?_; clear HE; intro a HE
          refine o_assign HE rfl rfl ?_; clear HE; intro a HE
          refine hK37 _ _ ?_; clear hK37
          refine wp_region_lit ?_
          refine o_add HE rfl rfl rfl (by omega) ?_; clear HE; intro a HE
          refine o_move HE rfl rfl ?_; clear HE; intro a HE
          have e6 : (((dv (s.take j) : Nat) : Int) * 10) + ((bt s (j : Int)) - 48) = ((dv (s.take (j + 1)) : Nat) : Int) := (dv_step hall (by omega)).symm
          rw [e6] at HE
          have hb2 : ((dv (s.take (j + 1)) : Nat) : Int) ≤ most := by omega
          exact ⟨j + 1, ⟨HS, HE.cut ⟨rfl, rfl, rfl, rfl, rfl, trivial⟩, ⟨by omega, hb2⟩⟩, by omega⟩
      · have h36r := h36; try simp only [Bool.not_eq_true', Bool.not_eq_false', Bool.and_eq_true, Bool.or_eq_true, Bool.or_eq_false_iff, Bool.and_eq_false_iff, decide_eq_true_eq, decide_eq_false_iff_not, beq_iff_eq, beq_eq_false_iff_ne, ne_eq] at h36
        refine wp_exit ?_
        refine hK29 _ _ ?_; clear hK29
        refine wp_seq_k (fun K hK => ?_); refine wp_region_lit ?_
        refine o_move HE rfl rfl ?_; clear HE; intro a HE
        refine o_assign HE rfl rfl ?_; clear HE; intro a HE
        refine hK _ _ ?_; clear hK K
        refine wp_ret ?_
        show Q .ret _ _
        refine ret hQ HE rfl (HE.res rfl .nil) ⟨_, _, HS.stop (List.nil_sublist _), rfl, ?_⟩
        have e : j = s.length := by omega
        subst e
        rw [List.take_length] at hb ⊢
        exact ⟨_, size_ok hdg hb, rfl⟩

/-! `incognito/num.Parse$1` -/
set_option maxRecDepth 100000 in
set_option maxHeartbeats 4000000 in
theorem c_parse1 (s : Bs) (b1 : Nat) (w0 : World) (G : Heap) (hG : Sub G w0) (hC1 : CellsAt G b1 0 [str s]) (hl : s.length ≤ 9223372036854775807):
    Calls Tryd.prog 52 #[.pointer (some ⟨b1, 0, none⟩)] w0 (Throws w0 G 32 (fun v _ => ∃ n, parseS s = .ok n ∧ v = .int .i64 n) (fun e => parseS s = .error e)) := by
  refine enter Tryd.func52 rfl Tryd.ntmps52 rfl ?_
  intro Q hQ a HE
  have HS := St.start0 hG
  refine wp_seq_k (fun K hK => ?_); refine wp_region_lit ?_
  refine o_assign HE rfl rfl ?_; clear HE; intro a HE
  refine hK _ _ ?_; clear hK K
  refine wp_seq_k (fun K3 hK2 => ?_)
  refine wp_seq_k (fun K hK => ?_); refine wp_region_lit ?_
  refine o_ldI HE rfl HS rfl T.s9 hC1 (j := 0) rfl rfl ?_; clear HE; intro a HE
  refine o_eqS HE rfl rfl rfl ?_; clear HE; intro a HE
  refine o_move HE rfl rfl ?_; clear HE; intro a HE
  refine cutL 4 (fun a' w' => w0 = w' ∧ Env a' 24 [] [(9, .bool ((s == []) || (!decide ((bt s 0) = 45)))), (0, .pointer (some ⟨b1, 0, none⟩)), (1, .int .i64 0)]) ?_ ?_
  · refine (Bool.eq_false_or_eq_true (s == [])).elim (fun hb4 => ?_) (fun hb4 => ?_)
    · skip
      have hk5 := hb4; try simp only [Bool.not_eq_true', Bool.not_eq_false', Bool.and_eq_true, Bool.or_eq_true, Bool.or_eq_false_iff, decide_eq_true_eq, decide_eq_false_iff_not, beq_iff_eq, beq_eq_false_iff_ne, ne_eq] at hk5
      refine g_off HE rfl rfl rfl hb4 ?_; clear HE; intro a HE
      refine g_off HE rfl rfl rfl hb4 ?_; clear HE; intro a HE
      refine g_off HE rfl rfl rfl hb4 ?_; clear HE; intro a HE
      refine o_pick_t HE rfl rfl hb4 rfl ?_; clear HE; intro a HE
      exact ⟨rfl, HE.cut ⟨by rw [hb4]; rfl, rfl, rfl, trivial⟩⟩
    · skip
      have hk6 := hb4; try simp only [Bool.not_eq_true', Bool.not_eq_false', Bool.and_eq_true, Bool.or_eq_true, Bool.or_eq_false_iff, decide_eq_true_eq, decide_eq_false_iff_not, beq_iff_eq, beq_eq_false_iff_ne, ne_eq] at hk6
      refine op_on HE rfl rfl hb4 ?_
      refine o_ldI HE rfl HS rfl T.s9 hC1 (j := 0) rfl rfl ?_; clear HE; intro a HE
      refine op_on HE rfl rfl hb4 ?_
      refine o_index HE rfl rfl rfl Tryd.underlying9 (by (have := List.length_pos_iff.2 (show s ≠ [] by assumption); omega)) ?_; clear HE; intro a HE
      refine op_on HE rfl rfl hb4 ?_
      refine o_neI HE rfl rfl rfl ?_; clear HE; intro a HE
      refine o_pick_f HE rfl rfl hb4 rfl ?_; clear HE; intro a HE
      exact ⟨rfl, HE.cut ⟨by rw [hb4]; rfl, rfl, rfl, trivial⟩⟩
  clear HE; rintro a _ ⟨rfl, HE⟩
  refine hK _ _ ?_; clear hK K
  refine cond HE rfl (fun h8 => ?_) (fun h8 => ?_)
  · have h8r := h8; try simp only [Bool.not_eq_true', Bool.not_eq_false', Bool.and_eq_true, Bool.or_eq_true, Bool.or_eq_false_iff, Bool.and_eq_false_iff, decide_eq_true_eq, decide_eq_false_iff_not, beq_iff_eq, beq_eq_false_iff_ne, ne_eq] at h8
    refine wp_seq_k (fun K hK => ?_); refine wp_region_lit ?_
    refine o_ldI HE rfl HS rfl T.s9 hC1 (j := 0) rfl rfl ?_; clear HE; intro a HE
    refine o_callE HE rfl HS rfl rfl T.g53 (c_size s 9223372036854775807 _ _ HS.sub (by omega) (by first | omega | (simp; omega))) (fun e G' w' HS hle he => show Q (.panic (thrown _ e)) _ _ from throwX hQ HE ⟨_, _, HS.stop (List.nil_sublist _), rfl, _, (by unfold parseS; rw [if_pos (by simpa using h8)]; exact he), rfl⟩) ?_
    clear HE HS; rintro _ G9 w a HS hle9 ⟨n9, hn9, rfl⟩ HE
    replace hC1 := hC1.le hle9
    have hsb := size_bound hn9
    refine o_conv HE rfl rfl T.c77_2 (wrap_i64 (by omega)) ?_; clear HE; intro a HE
    refine o_assign HE rfl rfl ?_; clear HE; intro a HE
    refine hK _ _ ?_; clear hK K
    refine wp_ret ?_
    show Q .ret _ _
    refine ret hQ HE rfl (HE.res rfl .nil) ⟨_, _, HS.stop (List.nil_sublist _), rfl, ?_⟩
    refine ⟨_, ?_, rfl⟩
    unfold parseS
    rw [if_pos (by simpa using h8)]
    exact hn9
  · have h8r := h8; try simp only [Bool.not_eq_true', Bool.not_eq_false', Bool.and_eq_true, Bool.or_eq_true, Bool.or_eq_false_iff, Bool.and_eq_false_iff, decide_eq_true_eq, decide_eq_false_iff_not, beq_iff_eq, beq_eq_false_iff_ne, ne_eq] at h8
    refine wp_skip ?_
    refine hK2 _ _ ?_; clear hK2
    refine wp_seq_k (fun K hK => ?_); refine wp_region_lit ?_
    refine o_ldI HE rfl HS rfl T.s9 hC1 (j := 0) rfl rfl ?_; clear HE; intro a HE
    have h0 := List.length_pos_iff.2 h8.1
    refine o_sliceLo HE rfl rfl rfl Tryd.underlying9 (by omega) ?_; clear HE; intro a HE
    refine o_callE HE rfl HS rfl rfl T.g53 (c_size (List.drop 1 s) 9223372036854775808 _ _ HS.sub (by omega) (by first | omega | (simp; omega))) (fun e G' w' HS hle he => show Q (.panic (thrown _ e)) _ _ from throwX hQ HE ⟨_, _, HS.stop (List.nil_sublist _), rfl, _, (by unfold parseS; rw [if_neg (by simpa using h8), he]), rfl⟩) ?_
    clear HE HS; rintro _ G11 w a HS hle11 ⟨n11, hn11, rfl⟩ HE
    replace hC1 := hC1.le hle11
    refine o_assign HE rfl rfl ?_; clear HE; intro a HE
    refine hK _ _ ?_; clear hK K
    refine wp_seq_k (fun K14 hK13 => ?_)
    refine wp_seq_k (fun K hK => ?_); refine wp_region_lit ?_
    have hsb := size_bound hn11
    refine o_move HE rfl rfl ?_; clear HE; intro a HE
    refine o_eqI HE rfl rfl rfl ?_; clear HE; intro a HE
    refine hK _ _ ?_; clear hK K
    refine cond HE rfl (fun h16 => ?_) (fun h16 => ?_)
    · have h16r := h16; try simp only [Bool.not_eq_true', Bool.not_eq_false', Bool.and_eq_true, Bool.or_eq_true, Bool.or_eq_false_iff, Bool.and_eq_false_iff, decide_eq_true_eq, decide_eq_false_iff_not, beq_iff_eq, beq_eq_false_iff_ne, ne_eq] at h16
      refine wp_region_lit ?_
      refine o_mkIf HE rfl rfl T.n32 ?_; clear HE; intro a HE
      refine o_panic HE rfl ?_
      show Q (.panic _) _ _
      exact throwX hQ HE ⟨_, _, HS.stop (List.nil_sublist _), rfl, _, (by unfold parseS; rw [if_neg (by simpa using h8), hn11]; exact if_pos h16), rfl⟩
    · have h16r := h16; try simp only [Bool.not_eq_true', Bool.not_eq_false', Bool.and_eq_true, Bool.or_eq_true, Bool.or_eq_false_iff, Bool.and_eq_false_iff, decide_eq_true_eq, decide_eq_false_iff_not, beq_iff_eq, beq_eq_false_iff_ne, ne_eq] at h16
      refine wp_skip ?_
      refine hK13 _ _ ?_; clear hK13
      refine wp_seq_k (fun K hK => ?_); refine wp_region_lit ?_
      refine o_move HE rfl rfl ?_; clear HE; intro a HE
      refine o_subF HE rfl rfl rfl (wrap_u64 (by omega)) ?_; clear HE; intro a HE
      refine o_conv HE rfl rfl T.c77_2 (wrap_i64 (by omega)) ?_; clear HE; intro a HE
      refine o_negF HE rfl rfl (wrap_i64 (by omega)) ?_; clear HE; intro a HE
      refine o_sub HE rfl rfl rfl (by omega) ?_; clear HE; intro a HE
      refine o_assign HE rfl rfl ?_; clear HE; intro a HE
      refine hK _ _ ?_; clear hK K
      refine wp_ret ?_
      show Q .ret _ _
      refine ret hQ HE rfl (HE.res rfl .nil) ⟨_, _, HS.stop (List.nil_sublist _), rfl, ?_⟩
      refine ⟨_, ?_, rfl⟩
      unfold parseS
      rw [if_neg (by simpa using h8), hn11]
      rw [show -(n11 - 1) - 1 = -n11 by omega]
      exact if_neg h16

theorem catch_idle (p q : Nat) (w : World) : CallsD Tryd.prog 69 #[.pointer (some ⟨p, 0, none⟩), .pointer (some ⟨q, 0, none⟩)] .returning w fun e u' w' => (∃ v, e = .returned v) ∧ u' = .returning ∧ w' = w := by
  refine enterS Tryd.func69 rfl Tryd.ntmps69 rfl fun c₀ cs hu a HE => ?_
  apply wpS_seq
  apply wpS_region
  show wpOpsS _ _ _ [0, 1] _ _ _
  refine opsS_recover rfl rfl rfl HE rfl run_recover (fun _ a HE => ?_) (fun v cs' h => by simp [recoverD, hu] at h)
  refine opsS_val (w' := w) (v := .nilIface) rfl rfl rfl HE rfl (by simp [execOp, HE.eval (x := .tmp 3) (v := .nilIface) rfl]) fun a HE => ?_
  show Code.wpS _ _ _ _ _ _
  apply wpS_seq
  apply wpS_region
  show wpOpsS _ _ _ [0, 1] _ _ _
  refine opsS_val (w' := w) (v := .nilIface) rfl rfl rfl HE rfl (by simp [execOp, HE.eval (x := .tmp 2) (v := .nilIface) rfl]) fun a HE => ?_
  refine opsS_val (w' := w) rfl rfl rfl HE rfl (run_isNil HE rfl T.i20) fun a HE => ?_
  show Code.wpS _ _ _ _ _ _
  refine wpS_cond (t := false) (HE.eval rfl) ?_
  simp only [Bool.false_eq_true, if_false]
  refine wpS_of_wp (wp_skip ?_)
  exact ⟨HE.defers, .returning, by cases c₀; simp_all, _, Res.nil.run rfl, ⟨_, rfl⟩, rfl, rfl⟩
theorem catch_pan (p q : Nat) (e : Int) (older : List PanicEntry) {x y : Value} {w0 : World} {G0 : Heap} {K0 : List Nat} {G : Heap} {w : World} {M0 : List Chunk} (HS : St w0 G0 K0 G w ([(q, Cells 32 [(0, y)])] :: [(p, Cells 2 [(0, x)])] :: M0)) :
    CallsD Tryd.prog 69 #[.pointer (some ⟨p, 0, none⟩), .pointer (some ⟨q, 0, none⟩)] (.panicking ({ v := .iface 32 (.int .i64 e), recovered := false } :: older)) w fun e' u' w' => (∃ v, e' = .returned v) ∧ u' = .panicking ({ v := .iface 32 (.int .i64 e), recovered := true } :: older) ∧ St w0 G0 K0 G w' ([(q, Cells 32 [(0, .int .i64 e)])] :: [(p, Cells 2 [(0, .int .i64 0)])] :: M0) := by
  refine enterS Tryd.func69 rfl Tryd.ntmps69 rfl fun c₀ cs hu a HE => ?_
  apply wpS_seq
  apply wpS_region
  show wpOpsS _ _ _ [0, 1] _ _ _
  refine opsS_recover rfl rfl rfl HE rfl run_recover (fun h => by simp [recoverD, hu] at h) (fun v cs' h a HE => ?_)
  obtain ⟨rfl, rfl⟩ : v = .iface 32 (.int .i64 e) ∧ cs' = { c₀ with mode := .panicking ({ v := .iface 32 (.int .i64 e), recovered := true } :: older) } :: cs := by
    simp [recoverD, hu] at h
    exact ⟨h.1.symm, h.2.symm⟩
  refine opsS_val (w' := w) (v := .iface 32 (.int .i64 e)) rfl rfl rfl HE rfl (by simp [execOp, HE.eval (x := .tmp 3) (v := .iface 32 (.int .i64 e)) rfl]) fun a HE => ?_
  show Code.wpS _ _ _ _ _ _
  apply wpS_seq
  apply wpS_region
  show wpOpsS _ _ _ [0, 1] _ _ _
  refine opsS_val (w' := w) (v := .iface 32 (.int .i64 e)) rfl rfl rfl HE rfl (by simp [execOp, HE.eval (x := .tmp 2) (v := .iface 32 (.int .i64 e)) rfl]) fun a HE => ?_
  refine opsS_val (w' := w) rfl rfl rfl HE rfl (run_isThere HE rfl T.i20) fun a HE => ?_
  show Code.wpS _ _ _ _ _ _
  refine wpS_cond (t := true) (HE.eval rfl) ?_
  simp only [if_true]
  refine wpS_of_wp (wp_region_any T.mix ?_)
  have HS := HS.drew
  clear h
  show wpAny _ _ _ _ 4 #[false, false, false, false] _ _
  refine any_node (l := [0, 2]) (by kernel_rfl) (by simp) fun i hi => ?_
  simp only [List.mem_cons, List.not_mem_nil, or_false] at hi
  rcases hi with rfl | rfl
  · refine any_op rfl ?_
    refine o_move HE rfl rfl ?_; clear HE; intro a HE
    refine any_next (l2 := #[true, false, false, false]) (by kernel_rfl) ?_
    refine any_node (l := [1, 2]) (by kernel_rfl) (by simp) fun i hi => ?_
    simp only [List.mem_cons, List.not_mem_nil, or_false] at hi
    rcases hi with rfl | rfl
    · refine any_op rfl ?_
      refine o_assert HE rfl rfl T.n32 ?_; clear HE; intro a HE
      refine any_next (l2 := #[true, true, false, false]) (by kernel_rfl) ?_
      refine any_node (l := [2]) (by kernel_rfl) (by simp) fun i hi => ?_
      simp only [List.mem_cons, List.not_mem_nil, or_false] at hi
      subst hi
      refine any_op rfl ?_
      refine o_st HE HS rfl rfl rfl T.s2 (.there (.here .here)) rfl ?_; clear HS; intro w HS
      refine any_next (l2 := #[true, true, true, false]) (by kernel_rfl) ?_
      refine any_node (l := [3]) (by kernel_rfl) (by simp) fun i hi => ?_
      simp only [List.mem_cons, List.not_mem_nil, or_false] at hi
      subst hi
      refine any_op rfl ?_
      refine o_st HE HS rfl rfl rfl T.s32 (.here .here) rfl ?_; clear HS; intro w HS
      refine any_next (l2 := #[true, true, true, true]) (by kernel_rfl) ?_
      refine any_end (by kernel_rfl) ?_
      exact ⟨HE.defers, _, rfl, _, Res.nil.run rfl, ⟨_, rfl⟩, rfl, (HS.conv (L2 := [(0, .int .i64 e)]) (.here .here) ⟨rfl, trivial⟩).conv (L2 := [(0, .int .i64 0)]) (.there (.here .here)) ⟨rfl, trivial⟩⟩
    · refine any_op rfl ?_
      refine o_st HE HS rfl rfl rfl T.s2 (.there (.here .here)) rfl ?_; clear HS; intro w HS
      refine any_next (l2 := #[true, false, true, false]) (by kernel_rfl) ?_
      refine any_node (l := [1]) (by kernel_rfl) (by simp) fun i hi => ?_
      simp only [List.mem_cons, List.not_mem_nil, or_false] at hi
      subst hi
      refine any_op rfl ?_
      refine o_assert HE rfl rfl T.n32 ?_; clear HE; intro a HE
      refine any_next (l2 := #[true, true, true, false]) (by kernel_rfl) ?_
      refine any_node (l := [3]) (by kernel_rfl) (by simp) fun i hi => ?_
      simp only [List.mem_cons, List.not_mem_nil, or_false] at hi
      subst hi
      refine any_op rfl ?_
      refine o_st HE HS rfl rfl rfl T.s32 (.here .here) rfl ?_; clear HS; intro w HS
      refine any_next (l2 := #[true, true, true, true]) (by kernel_rfl) ?_
      refine any_end (by kernel_rfl) ?_
      exact ⟨HE.defers, _, rfl, _, Res.nil.run rfl, ⟨_, rfl⟩, rfl, (HS.conv (L2 := [(0, .int .i64 e)]) (.here .here) ⟨rfl, trivial⟩).conv (L2 := [(0, .int .i64 0)]) (.there (.here .here)) ⟨rfl, trivial⟩⟩
  · refine any_op rfl ?_
    refine o_st HE HS rfl rfl rfl T.s2 (.there (.here .here)) rfl ?_; clear HS; intro w HS
    refine any_next (l2 := #[false, false, true, false]) (by kernel_rfl) ?_
    refine any_node (l := [0]) (by kernel_rfl) (by simp) fun i hi => ?_
    simp only [List.mem_cons, List.not_mem_nil, or_false] at hi
    subst hi
    refine any_op rfl ?_
    refine o_move HE rfl rfl ?_; clear HE; intro a HE
    refine any_next (l2 := #[true, false, true, false]) (by kernel_rfl) ?_
    refine any_node (l := [1]) (by kernel_rfl) (by simp) fun i hi => ?_
    simp only [List.mem_cons, List.not_mem_nil, or_false] at hi
    subst hi
    refine any_op rfl ?_
    refine o_assert HE rfl rfl T.n32 ?_; clear HE; intro a HE
    refine any_next (l2 := #[true, true, true, false]) (by kernel_rfl) ?_
    refine any_node (l := [3]) (by kernel_rfl) (by simp) fun i hi => ?_
    simp only [List.mem_cons, List.not_mem_nil, or_false] at hi
    subst hi
    refine any_op rfl ?_
    refine o_st HE HS rfl rfl rfl T.s32 (.here .here) rfl ?_; clear HS; intro w HS
    refine any_next (l2 := #[true, true, true, true]) (by kernel_rfl) ?_
    refine any_end (by kernel_rfl) ?_
    exact ⟨HE.defers, _, rfl, _, Res.nil.run rfl, ⟨_, rfl⟩, rfl, (HS.conv (L2 := [(0, .int .i64 e)]) (.here .here) ⟨rfl, trivial⟩).conv (L2 := [(0, .int .i64 0)]) (.there (.here .here)) ⟨rfl, trivial⟩⟩
theorem c_caught {f : Nat} {cs : List Value} {R : Value → Prop} {E : Int → Prop} (w0 : World) (G : Heap) (hG : Sub G w0) (hf : goFn Tryd.prog f = true) (hone : ∀ v, R v → X.one v = true)
    (hc : ∀ w1 G1, Heap.le G G1 → Sub G1 w1 → Calls Tryd.prog f cs.toArray w1 (Throws w1 G1 32 (fun v _ => R v) E)) :
    Calls Tryd.prog 51 #[.func (.func f) #[] cs.toArray] w0 (Ret w0 G (fun v _ => (∃ u, R u ∧ v = .tuple #[u, .int .i64 0]) ∨ ∃ e, E e ∧ v = .tuple #[.int .i64 0, .int .i64 e])) := by
  refine enterD Tryd.func51 rfl Tryd.ntmps51 rfl ?_
  intro Q hQ a HE
  have HS := St.start0 hG
  refine wp_seq_k (fun K hK => ?_); refine wp_region_lit ?_
  refine o_allocL [(0, _)] HE rfl HS T.z2 ⟨rfl, trivial⟩ ?_; clear HE HS; intro B2 w a HS HE
  refine o_allocL [(0, _)] HE rfl HS T.z32 ⟨rfl, trivial⟩ ?_; clear HE HS; intro B3 w a HS HE
  refine hK _ _ ?_; clear hK K
  refine wp_seq_k (fun K hK => ?_); refine wp_region_lit ?_
  refine o_func HE rfl rfl rfl ?_; clear HE; intro a HE
  refine o_defer HE rfl ?_; clear HE; intro a HE
  refine hK _ _ ?_; clear hK K
  refine wp_seq_k (fun K hK => ?_); refine wp_region_lit ?_
  refine o_move HE rfl rfl ?_; clear HE; intro a HE
  refine o_callE HE rfl HS (us := []) (vs := []) rfl rfl hf (by simpa using hc _ _ HS.le HS.sub) ?_ ?_
  · clear HS; intro e G' w HS hle he
    refine hQ _ _ _ ?_
    show Leaves _ _ a.tmps _ a.defers _ _
    rw [HE.defers]
    refine leaves_cons (f := 69) (args := #[.pointer (some ⟨B2, 0, none⟩), .pointer (some ⟨B3, 0, none⟩)]) (by simp) (run_go T.g69 _) ?_
    refine (catch_pan B2 B3 e [] HS).mono ?_
    rintro e' u' w' ⟨⟨v, rfl⟩, rfl, HS⟩
    refine ⟨_, (HE.resS HS rfl T.s2 (.there (.here .here)) rfl (HE.resS HS rfl T.s32 (.here .here) rfl .nil)).run rfl, ⟨_, _, HS.stop (List.nil_sublist _), rfl, .inr ⟨e, he, rfl⟩⟩⟩
  · clear HE HS; intro v G' w a HS hle hv HE
    have h1 := hone v hv
    refine o_st HE HS rfl rfl h1 T.s2 (.there (.here .here)) rfl ?_; clear HS; intro w HS
    refine o_st HE HS rfl rfl rfl T.s32 (.here .here) rfl ?_; clear HS; intro w HS
    refine hK _ _ ?_; clear hK K
    refine wp_ret ?_
    refine hQ _ _ _ ?_
    show Leaves _ _ a.tmps _ a.defers _ _
    rw [HE.defers]
    refine leaves_cons (f := 69) (args := #[.pointer (some ⟨B2, 0, none⟩), .pointer (some ⟨B3, 0, none⟩)]) (by simp) (run_go T.g69 _) ?_
    refine (catch_idle B2 B3 _).mono ?_
    rintro e' u' w' ⟨⟨v', rfl⟩, rfl, rfl⟩
    refine ⟨_, (HE.resS HS rfl T.s2 (.there (.here .here)) rfl (HE.resS HS rfl T.s32 (.here .here) rfl .nil)).run rfl, ⟨_, _, HS.stop (List.nil_sublist _), rfl, .inl ⟨v, hv, rfl⟩⟩⟩
theorem c_caughtI {f : Nat} {cs : List Value} {spec : Except Int Int} (w0 : World) (G : Heap) (hG : Sub G w0) (hf : goFn Tryd.prog f = true)
    (hc : ∀ w1 G1, Heap.le G G1 → Sub G1 w1 → Calls Tryd.prog f cs.toArray w1 (Throws w1 G1 32 (fun v _ => ∃ n, spec = .ok n ∧ v = .int .i64 n) (fun e => spec = .error e))) :
    Calls Tryd.prog 51 #[.func (.func f) #[] cs.toArray] w0 (Ret w0 G (fun v _ => v = .tuple #[.int .i64 (okv spec), .int .i64 (erv spec)])) := by
  refine (c_caught w0 G hG hf (by rintro v ⟨n, _, rfl⟩; rfl) hc).mono fun e w' he => ?_
  cases e with
  | returned v =>
    obtain ⟨G', M', h1, h2, h⟩ := he
    refine ⟨G', M', h1, h2, ?_⟩
    rcases h with ⟨u, ⟨n, rfl, rfl⟩, rfl⟩ | ⟨e, rfl, rfl⟩
    · rfl
    · rfl
  | panicked c => exact he
  | outgrown => exact he

/-! `incognito/num.Parse` -/
set_option maxRecDepth 100000 in
set_option maxHeartbeats 4000000 in
theorem c_parse (s : Bs) (w0 : World) (G : Heap) (hG : Sub G w0) (hl : s.length ≤ 9223372036854775807):
    Calls Tryd.prog 38 #[str s] w0 (Ret w0 G (fun v _ => v = .tuple #[.int .i64 (okv (parseS s)), .int .i64 (erv (parseS s))])) := by
  refine enter Tryd.func38 rfl Tryd.ntmps38 rfl ?_
  intro Q hQ a HE
  have HS := St.start0 hG
  refine wp_seq_k (fun K hK => ?_); refine wp_region_lit ?_
  refine o_boxL [(0, _)] HE rfl HS rfl ⟨rfl, trivial⟩ ?_; clear HE HS; intro B1 w a HS HE
  refine o_assign HE rfl rfl ?_; clear HE; intro a HE
  refine o_assign HE rfl rfl ?_; clear HE; intro a HE
  refine hK _ _ ?_; clear hK K
  refine wp_seq_k (fun K hK => ?_); refine wp_region_lit ?_
  refine o_func HE rfl rfl rfl ?_; clear HE; intro a HE
  obtain ⟨G2, hle4, hC3, HS'⟩ := HS.stillHead (n := 1) rfl; clear HS; have HS := HS'; clear HS'
  refine o_callP HE rfl HS rfl rfl T.g51 (c_caughtI (spec := parseS s) _ _ HS.sub T.g52 (fun w1 G1 hle hs => c_parse1 s _ w1 G1 hs (hC3.le hle) hl)) ?_
  clear HE HS; rintro _ w a HS rfl HE
  refine o_extract HE rfl rfl rfl ?_; clear HE; intro a HE
  refine o_extract HE rfl rfl rfl ?_; clear HE; intro a HE
  refine o_assign HE rfl rfl ?_; clear HE; intro a HE
  refine o_assign HE rfl rfl ?_; clear HE; intro a HE
  refine hK _ _ ?_; clear hK K
  refine wp_ret ?_
  show Q .ret _ _
  refine ret hQ HE rfl (HE.res rfl (HE.res rfl .nil)) ⟨_, _, HS.stop (List.nil_sublist _), rfl, ?_⟩
  exact rfl

/-! `incognito/value.IsWord` -/
set_option maxRecDepth 100000 in
set_option maxHeartbeats 4000000 in
theorem c_isWord (s : Bs) (w0 : World) (G : Heap) (hG : Sub G w0) (hl : s.length ≤ 9223372036854775807):
    Calls Tryd.prog 11 #[str s] w0 (Ret w0 G (fun v _ => v = .bool (isWordB s))) := by
  refine enter Tryd.func11 rfl Tryd.ntmps11 rfl ?_
  intro Q hQ a HE
  have HS := St.start0 hG
  refine wp_seq_k (fun K hK => ?_); refine wp_region_lit ?_
  refine o_assign HE rfl rfl ?_; clear HE; intro a HE
  refine hK _ _ ?_; clear hK K
  refine wp_seq_k (fun K3 hK2 => ?_)
  refine wp_seq_k (fun K hK => ?_); refine wp_region_lit ?_
  refine o_move HE rfl rfl ?_; clear HE; intro a HE
  refine o_eqS HE rfl rfl rfl ?_; clear HE; intro a HE
  refine o_move HE rfl rfl ?_; clear HE; intro a HE
  refine cutL 4 (fun a' w' => w0 = w' ∧ Env a' 50 [] [(11, .bool ((s == []) || (decide (40 < (s.length : Int))))), (0, str s), (2, .bool false)]) ?_ ?_
  · refine (Bool.eq_false_or_eq_true (s == [])).elim (fun hb4 => ?_) (fun hb4 => ?_)
    · skip
      have hk5 := hb4; try simp only [Bool.not_eq_true', Bool.not_eq_false', Bool.and_eq_true, Bool.or_eq_true, Bool.or_eq_false_iff, decide_eq_true_eq, decide_eq_false_iff_not, beq_iff_eq, beq_eq_false_iff_ne, ne_eq] at hk5
      refine g_off HE rfl rfl rfl hb4 ?_; clear HE; intro a HE
      refine g_off HE rfl rfl rfl hb4 ?_; clear HE; intro a HE
      refine g_off HE rfl rfl rfl hb4 ?_; clear HE; intro a HE
      refine o_pick_t HE rfl rfl hb4 rfl ?_; clear HE; intro a HE
      exact ⟨rfl, HE.cut ⟨by rw [hb4]; rfl, rfl, rfl, trivial⟩⟩
    · skip
      have hk6 := hb4; try simp only [Bool.not_eq_true', Bool.not_eq_false', Bool.and_eq_true, Bool.or_eq_true, Bool.or_eq_false_iff, decide_eq_true_eq, decide_eq_false_iff_not, beq_iff_eq, beq_eq_false_iff_ne, ne_eq] at hk6
      refine op_on HE rfl rfl hb4 ?_
      refine o_move HE rfl rfl ?_; clear HE; intro a HE
      refine op_on HE rfl rfl hb4 ?_
      refine o_lenS HE rfl rfl Tryd.underlying9 ?_; clear HE; intro a HE
      refine op_on HE rfl rfl hb4 ?_
      refine o_gtr HE rfl rfl rfl ?_; clear HE; intro a HE
      refine o_pick_f HE rfl rfl hb4 rfl ?_; clear HE; intro a HE
      exact ⟨rfl, HE.cut ⟨by rw [hb4]; rfl, rfl, rfl, trivial⟩⟩
  clear HE; rintro a _ ⟨rfl, HE⟩
  refine o_move HE rfl rfl ?_; clear HE; intro a HE
  refine cutL 4 (fun a' w' => w0 = w' ∧ Env a' 50 [] [(16, .bool (((s == []) || (decide (40 < (s.length : Int)))) || (decide ((bt s 0) < 97)))), (0, str s), (2, .bool false)]) ?_ ?_
  · refine (Bool.eq_false_or_eq_true ((s == []) || (decide (40 < (s.length : Int))))).elim (fun hb7 => ?_) (fun hb7 => ?_)
    · skip
      have hk8 := hb7; try simp only [Bool.not_eq_true', Bool.not_eq_false', Bool.and_eq_true, Bool.or_eq_true, Bool.or_eq_false_iff, decide_eq_true_eq, decide_eq_false_iff_not, beq_iff_eq, beq_eq_false_iff_ne, ne_eq] at hk8
      refine g_off HE rfl rfl rfl hb7 ?_; clear HE; intro a HE
      refine g_off HE rfl rfl rfl hb7 ?_; clear HE; intro a HE
      refine g_off HE rfl rfl rfl hb7 ?_; clear HE; intro a HE
      refine o_pick_t HE rfl rfl hb7 rfl ?_; clear HE; intro a HE
      exact ⟨rfl, HE.cut ⟨by rw [hb7]; rfl, rfl, rfl, trivial⟩⟩
    · skip
      have hk9 := hb7; try simp only [Bool.not_eq_true', Bool.not_eq_false', Bool.and_eq_true, Bool.or_eq_true, Bool.or_eq_false_iff, decide_eq_true_eq, decide_eq_false_iff_not, beq_iff_eq, beq_eq_false_iff_ne, ne_eq] at hk9
      refine op_on HE rfl rfl hb7 ?_
      refine o_move HE rfl rfl ?_; clear HE; intro a HE
      refine op_on HE rfl rfl hb7 ?_
      refine o_index HE rfl rfl rfl Tryd.underlying9 (by (have := List.length_pos_iff.2 (show s ≠ [] by simp_all); omega)) ?_; clear HE; intro a HE
      refine op_on HE rfl rfl hb7 ?_
      refine o_lss HE rfl rfl rfl ?_; clear HE; intro a HE
      refine o_pick_f HE rfl rfl hb7 rfl ?_; clear HE; intro a HE
      exact ⟨rfl, HE.cut ⟨by rw [hb7]; rfl, rfl, rfl, trivial⟩⟩
  clear HE; rintro a _ ⟨rfl, HE⟩
  refine o_move HE rfl rfl ?_; clear HE; intro a HE
  refine cutL 4 (fun a' w' => w0 = w' ∧ Env a' 50 [] [(21, .bool ((((s == []) || (decide (40 < (s.length : Int)))) || (decide ((bt s 0) < 97))) || (decide (122 < (bt s 0))))), (0, str s), (2, .bool false)]) ?_ ?_
  · refine (Bool.eq_false_or_eq_true (((s == []) || (decide (40 < (s.length : Int)))) || (decide ((bt s 0) < 97)))).elim (fun hb10 => ?_) (fun hb10 => ?_)
    · skip
      have hk11 := hb10; try simp only [Bool.not_eq_true', Bool.not_eq_false', Bool.and_eq_true, Bool.or_eq_true, Bool.or_eq_false_iff, decide_eq_true_eq, decide_eq_false_iff_not, beq_iff_eq, beq_eq_false_iff_ne, ne_eq] at hk11
      refine g_off HE rfl rfl rfl hb10 ?_; clear HE; intro a HE
      refine g_off HE rfl rfl rfl hb10 ?_; clear HE; intro a HE
      refine g_off HE rfl rfl rfl hb10 ?_; clear HE; intro a HE
      refine o_pick_t HE rfl rfl hb10 rfl ?_; clear HE; intro a HE
      exact ⟨rfl, HE.cut ⟨by rw [hb10]; rfl, rfl, rfl, trivial⟩⟩
    · skip
      have hk12 := hb10; try simp only [Bool.not_eq_true', Bool.not_eq_false', Bool.and_eq_true, Bool.or_eq_true, Bool.or_eq_false_iff, decide_eq_true_eq, decide_eq_false_iff_not, beq_iff_eq, beq_eq_false_iff_ne, ne_eq] at hk12
      refine op_on HE rfl rfl hb10 ?_
      refine o_move HE rfl rfl ?_; clear HE; intro a HE
      refine op_on HE rfl rfl hb10 ?_
      refine o_index HE rfl rfl rfl Tryd.underlying9 (by (have := List.length_pos_iff.2 (show s ≠ [] by simp_all); omega)) ?_; clear HE; intro a HE
      refine op_on HE rfl rfl hb10 ?_
      refine o_gtr HE rfl rfl rfl ?_; clear HE; intro a HE
      refine o_pick_f HE rfl rfl hb10 rfl ?_; clear HE; intro a HE
      exact ⟨rfl, HE.cut ⟨by rw [hb10]; rfl, rfl, rfl, trivial⟩⟩
  clear HE; rintro a _ ⟨rfl, HE⟩
  refine hK _ _ ?_; clear hK K
  refine cond HE rfl (fun h14 => ?_) (fun h14 => ?_)
  · have h14r := h14; try simp only [Bool.not_eq_true', Bool.not_eq_false', Bool.and_eq_true, Bool.or_eq_true, Bool.or_eq_false_iff, Bool.and_eq_false_iff, decide_eq_true_eq, decide_eq_false_iff_not, beq_iff_eq, beq_eq_false_iff_ne, ne_eq] at h14
    refine wp_seq_k (fun K hK => ?_); refine wp_region_lit ?_
    refine o_assign HE rfl rfl ?_; clear HE; intro a HE
    refine hK _ _ ?_; clear hK K
    refine wp_ret ?_
    show Q .ret _ _
    refine ret hQ HE rfl (HE.res rfl .nil) ⟨_, _, HS.stop (List.nil_sublist _), rfl, ?_⟩
    show _ = _
    simp only [packed, Value.bool.injEq]
    rcases h14 with ((h | h) | h) | h
    exact (word_len (.inl h)).symm
    exact (word_len (.inr h)).symm
    exact (word_first (.inl h)).symm
    exact (word_first (.inr h)).symm
  · have h14r := h14; try simp only [Bool.not_eq_true', Bool.not_eq_false', Bool.and_eq_true, Bool.or_eq_true, Bool.or_eq_false_iff, Bool.and_eq_false_iff, decide_eq_true_eq, decide_eq_false_iff_not, beq_iff_eq, beq_eq_false_iff_ne, ne_eq] at h14
    refine wp_skip ?_
    refine hK2 _ _ ?_; clear hK2
    refine wp_seq_k (fun K17 hK16 => ?_)
    refine wp_seq_k (fun K hK => ?_); refine wp_region_lit ?_
    refine o_move HE rfl rfl ?_; clear HE; intro a HE
    refine o_lenS HE rfl rfl Tryd.underlying9 ?_; clear HE; intro a HE
    refine o_move HE rfl rfl ?_; clear HE; intro a HE
    refine hK _ _ ?_; clear hK K
    refine wp_block ?_
    refine loop (fun (i : Nat) a' w' => St w0 G [] G w' [] ∧ Env a' 50 [] [(0, str s), (23, .int .i64 (s.length : Int)), (24, .int .i64 (i : Int))] ∧ (i ≤ s.length ∧ (s.take i).all wordC = true)) (fun (i : Nat) => s.length - i) 0 ⟨HS, HE.cut ⟨rfl, rfl, rfl, trivial⟩, ⟨Nat.zero_le _, rfl⟩⟩ ?_
    clear HE HS; intro i a w ⟨HS, HE, ⟨hi, ha⟩⟩
    refine wp_seq_k (fun K hK => ?_); refine wp_region_lit ?_
    refine o_lss HE rfl rfl rfl ?_; clear HE; intro a HE
    refine hK _ _ ?_; clear hK K
    refine wp_seq_k (fun K22 hK21 => ?_)
    refine cond HE rfl (fun h23 => ?_) (fun h23 => ?_)
    · have h23r := h23; try simp only [Bool.not_eq_true', Bool.not_eq_false', Bool.and_eq_true, Bool.or_eq_true, Bool.or_eq_false_iff, Bool.and_eq_false_iff, decide_eq_true_eq, decide_eq_false_iff_not, beq_iff_eq, beq_eq_false_iff_ne, ne_eq] at h23
      refine wp_skip ?_
      refine hK21 _ _ ?_; clear hK21
      refine wp_seq_k (fun K25 hK24 => ?_)
      refine wp_block ?_
      refine wp_seq_k (fun K hK => ?_); refine wp_region_lit ?_
      refine o_move HE rfl rfl ?_; clear HE; intro a HE
      refine o_assign HE rfl rfl ?_; clear HE; intro a HE
      refine hK _ _ ?_; clear hK K
      refine wp_seq_k (fun K hK => ?_); refine wp_region_lit ?_
      refine o_move HE rfl rfl ?_; clear HE; intro a HE
      refine o_move HE rfl rfl ?_; clear HE; intro a HE
      refine o_index HE rfl rfl rfl Tryd.underlying9 (by omega) ?_; clear HE; intro a HE
      refine o_assign HE rfl rfl ?_; clear HE; intro a HE
      refine hK _ _ ?_; clear hK K
      refine wp_seq_k (fun K hK => ?_); refine wp_region_lit ?_
      refine o_move HE rfl rfl ?_; clear HE; intro a HE
      refine o_geq HE rfl rfl rfl ?_; clear HE; intro a HE
      refine o_move HE rfl rfl ?_; clear HE; intro a HE
      refine cutL 3 (fun a' w' => w = w' ∧ Env a' 50 [] [(35, .bool ((decide (97 ≤ (bt s (i : Int)))) && (decide ((bt s (i : Int)) ≤ 122)))), (0, str s), (3, .int .i64 (i : Int)), (4, .int .u8 (bt s (i : Int))), (23, .int .i64 (s.length : Int)), (24, .int .i64 (i : Int)), (25, .bool (decide ((i : Int) < (s.length : Int)))), (26, .int .i64 (i : Int)), (27, str s), (28, .int .i64 (i : Int)), (29, .int .u8 (bt s (i : Int)))]) ?_ ?_
      · refine (Bool.eq_false_or_eq_true (decide (97 ≤ (bt s (i : Int))))).elim (fun hb28 => ?_) (fun hb28 => ?_)
        · skip
          have hk29 := hb28; try simp only [Bool.not_eq_true', Bool.not_eq_false', Bool.and_eq_true, Bool.or_eq_true, Bool.or_eq_false_iff, decide_eq_true_eq, decide_eq_false_iff_not, beq_iff_eq, beq_eq_false_iff_ne, ne_eq] at hk29
          refine op_on HE rfl rfl hb28 ?_
          refine o_move HE rfl rfl ?_; clear HE; intro a HE
          refine op_on HE rfl rfl hb28 ?_
          refine o_leq HE rfl rfl rfl ?_; clear HE; intro a HE
          refine o_pick_t HE rfl rfl hb28 rfl ?_; clear HE; intro a HE
          exact ⟨rfl, HE.cut ⟨by rw [hb28]; rfl, rfl, rfl, rfl, rfl, rfl, rfl, rfl, rfl, rfl, rfl, trivial⟩⟩
        · skip
          have hk30 := hb28; try simp only [Bool.not_eq_true', Bool.not_eq_false', Bool.and_eq_true, Bool.or_eq_true, Bool.or_eq_false_iff, decide_eq_true_eq, decide_eq_false_iff_not, beq_iff_eq, beq_eq_false_iff_ne, ne_eq] at hk30
          refine g_off HE rfl rfl rfl hb28 ?_; clear HE; intro a HE
          refine g_off HE rfl rfl rfl hb28 ?_; clear HE; intro a HE
          refine o_pick_f HE rfl rfl hb28 rfl ?_; clear HE; intro a HE
          exact ⟨rfl, HE.cut ⟨by rw [hb28]; rfl, rfl, rfl, rfl, rfl, rfl, rfl, rfl, rfl, rfl, rfl, trivial⟩⟩
      clear HE; rintro a _ ⟨rfl, HE⟩
      refine o_move HE rfl rfl ?_; clear HE; intro a HE
      refine cutL 7 (fun a' w' => w = w' ∧ Env a' 50 [] [(43, .bool (((decide (97 ≤ (bt s (i : Int)))) && (decide ((bt s (i : Int)) ≤ 122))) || ((decide (48 ≤ (bt s (i : Int)))) && (decide ((bt s (i : Int)) ≤ 57))))), (0, str s), (3, .int .i64 (i : Int)), (4, .int .u8 (bt s (i : Int))), (23, .int .i64 (s.length : Int)), (24, .int .i64 (i : Int)), (25, .bool (decide ((i : Int) < (s.length : Int)))), (26, .int .i64 (i : Int)), (27, str s), (28, .int .i64 (i : Int)), (29, .int .u8 (bt s (i : Int)))]) ?_ ?_
      · refine (Bool.eq_false_or_eq_true ((decide (97 ≤ (bt s (i : Int)))) && (decide ((bt s (i : Int)) ≤ 122)))).elim (fun hb31 => ?_) (fun hb31 => ?_)
        · skip
          have hk32 := hb31; try simp only [Bool.not_eq_true', Bool.not_eq_false', Bool.and_eq_true, Bool.or_eq_true, Bool.or_eq_false_iff, decide_eq_true_eq, decide_eq_false_iff_not, beq_iff_eq, beq_eq_false_iff_ne, ne_eq] at hk32
          refine g_off HE rfl rfl rfl hb31 ?_; clear HE; intro a HE
          refine g_off HE rfl rfl rfl hb31 ?_; clear HE; intro a HE
          refine g_off HE rfl rfl rfl hb31 ?_; clear HE; intro a HE
          refine g_offu HE rfl rfl rfl ?_; clear HE; intro a HE
          refine g_offu HE rfl rfl rfl ?_; clear HE; intro a HE
          refine g_off HE rfl rfl rfl hb31 ?_; clear HE; intro a HE
          refine o_pick_t HE rfl rfl hb31 rfl ?_; clear HE; intro a HE
          exact ⟨rfl, HE.cut ⟨by rw [hb31]; rfl, rfl, rfl, rfl, rfl, rfl, rfl, rfl, rfl, rfl, rfl, trivial⟩⟩
        · skip
          have hk33 := hb31; try simp only [Bool.not_eq_true', Bool.not_eq_false', Bool.and_eq_true, Bool.or_eq_true, Bool.or_eq_false_iff, decide_eq_true_eq, decide_eq_false_iff_not, beq_iff_eq, beq_eq_false_iff_ne, ne_eq] at hk33
          refine op_on HE rfl rfl hb31 ?_
          refine o_move HE rfl rfl ?_; clear HE; intro a HE
          refine op_on HE rfl rfl hb31 ?_
          refine o_geq HE rfl rfl rfl ?_; clear HE; intro a HE
          refine op_on HE rfl rfl hb31 ?_
          refine o_move HE rfl rfl ?_; clear HE; intro a HE
          refine cutL 3 (fun a' w' => w = w' ∧ Env a' 50 [] [(42, .bool ((decide (48 ≤ (bt s (i : Int)))) && (decide ((bt s (i : Int)) ≤ 57)))), (0, str s), (3, .int .i64 (i : Int)), (4, .int .u8 (bt s (i : Int))), (23, .int .i64 (s.length : Int)), (24, .int .i64 (i : Int)), (25, .bool (decide ((i : Int) < (s.length : Int)))), (26, .int .i64 (i : Int)), (27, str s), (28, .int .i64 (i : Int)), (29, .int .u8 (bt s (i : Int))), (36, .bool ((decide (97 ≤ (bt s (i : Int)))) && (decide ((bt s (i : Int)) ≤ 122))))]) ?_ ?_
          · refine (Bool.eq_false_or_eq_true (decide (48 ≤ (bt s (i : Int))))).elim (fun hb34 => ?_) (fun hb34 => ?_)
            · skip
              have hk35 := hb34; try simp only [Bool.not_eq_true', Bool.not_eq_false', Bool.and_eq_true, Bool.or_eq_true, Bool.or_eq_false_iff, decide_eq_true_eq, decide_eq_false_iff_not, beq_iff_eq, beq_eq_false_iff_ne, ne_eq] at hk35
              refine op_on HE rfl rfl hb34 ?_
              refine o_move HE rfl rfl ?_; clear HE; intro a HE
              refine op_on HE rfl rfl hb34 ?_
              refine o_leq HE rfl rfl rfl ?_; clear HE; intro a HE
              refine op_on HE rfl rfl hb31 ?_
              refine o_pick_t HE rfl rfl hb34 rfl ?_; clear HE; intro a HE
              exact ⟨rfl, HE.cut ⟨by rw [hb34]; rfl, rfl, rfl, rfl, rfl, rfl, rfl, rfl, rfl, rfl, rfl, rfl, trivial⟩⟩
            · skip
              have hk36 := hb34; try simp only [Bool.not_eq_true', Bool.not_eq_false', Bool.and_eq_true, Bool.or_eq_true, Bool.or_eq_false_iff, decide_eq_true_eq, decide_eq_false_iff_not, beq_iff_eq, beq_eq_false_iff_ne, ne_eq] at hk36
              refine g_off HE rfl rfl rfl hb34 ?_; clear HE; intro a HE
              refine g_off HE rfl rfl rfl hb34 ?_; clear HE; intro a HE
              refine op_on HE rfl rfl hb31 ?_
              refine o_pick_f HE rfl rfl hb34 rfl ?_; clear HE; intro a HE
              exact ⟨rfl, HE.cut ⟨by rw [hb34]; rfl, rfl, rfl, rfl, rfl, rfl, rfl, rfl, rfl, rfl, rfl, rfl, trivial⟩⟩
          clear HE; rintro a _ ⟨rfl, HE⟩
          refine o_pick_f HE rfl rfl hb31 rfl ?_; clear HE; intro a HE
          exact ⟨rfl, HE.cut ⟨by rw [hb31]; rfl, rfl, rfl, rfl, rfl, rfl, rfl, rfl, rfl, rfl, rfl, trivial⟩⟩
      clear HE; rintro a _ ⟨rfl, HE⟩
      refine o_move HE rfl rfl ?_; clear HE; intro a HE
      refine cutL 3 (fun a' w' => w = w' ∧ Env a' 50 [] [(47, .bool ((((decide (97 ≤ (bt s (i : Int)))) && (decide ((bt s (i : Int)) ≤ 122))) || ((decide (48 ≤ (bt s (i : Int)))) && (decide ((bt s (i : Int)) ≤ 57)))) || (decide ((bt s (i : Int)) = 95)))), (0, str s), (3, .int .i64 (i : Int)), (23, .int .i64 (s.length : Int)), (24, .int .i64 (i : Int)), (25, .bool (decide ((i : Int) < (s.length : Int)))), (26, .int .i64 (i : Int)), (27, str s), (28, .int .i64 (i : Int)), (29, .int .u8 (bt s (i : Int)))]) ?_ ?_
      · refine (Bool.eq_false_or_eq_true (((decide (97 ≤ (bt s (i : Int)))) && (decide ((bt s (i : Int)) ≤ 122))) || ((decide (48 ≤ (bt s (i : Int)))) && (decide ((bt s (i : Int)) ≤ 57))))).elim (fun hb37 => ?_) (fun hb37 => ?_)
        · skip
          have hk38 := hb37; try simp only [Bool.not_eq_true', Bool.not_eq_false', Bool.and_eq_true, Bool.or_eq_true, Bool.or_eq_false_iff, decide_eq_true_eq, decide_eq_false_iff_not, beq_iff_eq, beq_eq_false_iff_ne, ne_eq] at hk38
          refine g_off HE rfl rfl rfl hb37 ?_; clear HE; intro a HE
          refine g_off HE rfl rfl rfl hb37 ?_; clear HE; intro a HE
          refine o_pick_t HE rfl rfl hb37 rfl ?_; clear HE; intro a HE
          exact ⟨rfl, HE.cut ⟨by rw [hb37]; rfl, rfl, rfl, rfl, rfl, rfl, rfl, rfl, rfl, rfl, trivial⟩⟩
        · skip
          have hk39 := hb37; try simp only [Bool.not_eq_true', Bool.not_eq_false', Bool.and_eq_true, Bool.or_eq_true, Bool.or_eq_false_iff, decide_eq_true_eq, decide_eq_false_iff_not, beq_iff_eq, beq_eq_false_iff_ne, ne_eq] at hk39
          refine op_on HE rfl rfl hb37 ?_
          refine o_move HE rfl rfl ?_; clear HE; intro a HE
          refine op_on HE rfl rfl hb37 ?_
          refine o_eqI HE rfl rfl rfl ?_; clear HE; intro a HE
          refine o_pick_f HE rfl rfl hb37 rfl ?_; clear HE; intro a HE
          exact ⟨rfl, HE.cut ⟨by rw [hb37]; rfl, rfl, rfl, rfl, rfl, rfl, rfl, rfl, rfl, rfl, trivial⟩⟩
      clear HE; rintro a _ ⟨rfl, HE⟩
      refine o_not HE rfl rfl ?_; clear HE; intro a HE
      refine hK _ _ ?_; clear hK K
      refine cond HE rfl (fun h41 => ?_) (fun h41 => ?_)
      · have h41r := h41; try simp only [Bool.not_eq_true', Bool.not_eq_false', Bool.and_eq_true, Bool.or_eq_true, Bool.or_eq_false_iff, Bool.and_eq_false_iff, decide_eq_true_eq, decide_eq_false_iff_not, beq_iff_eq, beq_eq_false_iff_ne, ne_eq] at h41
        refine wp_seq_k (fun K hK => ?_); refine wp_region_lit ?_
        refine o_assign HE rfl rfl ?_; clear HE; intro a HE
        refine hK _ _ ?_; clear hK K
        refine wp_ret ?_
        show Q .ret _ _
        refine ret hQ HE rfl (HE.res rfl .nil) ⟨_, _, HS.stop (List.nil_sublist _), rfl, ?_⟩
        show _ = _
        simp only [packed, Value.bool.injEq]
        have hz := h41r
        rw [letter_eq] at hz
        exact (word_at (i := i) (by omega) (by simpa using hz)).symm
      · have h41r := h41; try simp only [Bool.not_eq_true', Bool.not_eq_false', Bool.and_eq_true, Bool.or_eq_true, Bool.or_eq_false_iff, Bool.and_eq_false_iff, decide_eq_true_eq, decide_eq_false_iff_not, beq_iff_eq, beq_eq_false_iff_ne, ne_eq] at h41
        refine wp_skip ?_
        refine hK24 _ _ ?_; clear hK24
        refine wp_region_lit ?_
        refine o_add HE rfl rfl rfl (by omega) ?_; clear HE; intro a HE
        refine o_move HE rfl rfl ?_; clear HE; intro a HE
        have hlt : i < s.length := by omega
        have hz := h41r
        rw [letter_eq] at hz
        have ha2 : (s.take (i + 1)).all wordC = true := by rw [all_snoc hlt, ha, wordC_bt hlt, Bool.true_and]; simpa using hz
        exact ⟨i + 1, ⟨HS, HE.cut ⟨rfl, rfl, rfl, trivial⟩, ⟨by omega, ha2⟩⟩, by omega⟩
    · have h23r := h23; try simp only [Bool.not_eq_true', Bool.not_eq_false', Bool.and_eq_true, Bool.or_eq_true, Bool.or_eq_false_iff, Bool.and_eq_false_iff, decide_eq_true_eq, decide_eq_false_iff_not, beq_iff_eq, beq_eq_false_iff_ne, ne_eq] at h23
      refine wp_exit ?_
      refine hK16 _ _ ?_; clear hK16
      refine wp_seq_k (fun K hK => ?_); refine wp_region_lit ?_
      refine o_assign HE rfl rfl ?_; clear HE; intro a HE
      refine hK _ _ ?_; clear hK K
      refine wp_ret ?_
      show Q .ret _ _
      refine ret hQ HE rfl (HE.res rfl .nil) ⟨_, _, HS.stop (List.nil_sublist _), rfl, ?_⟩
      show _ = _
      simp only [packed, Value.bool.injEq]
      exact (word_yes h14.1.1.1 h14.1.1.2 h14.1.2 h14.2 (by rwa [show i = s.length by omega, List.take_length] at ha)).symm

/-! `incognito/value.Parse` -/
set_option maxRecDepth 100000 in
set_option maxHeartbeats 4000000 in
theorem c_parseV (s : Bs) (w0 : World) (G : Heap) (hG : Sub G w0) (hg0 : CellsAt G 0 0 [.int .i64 3, .int .i64 1, str []]) (hg1 : CellsAt G 1 0 [.int .i64 3, .int .i64 0, str []]) (hl : s.length ≤ 9223372036854775807):
    Calls Tryd.prog 20 #[str s] w0 (Ret w0 G (fun v _ => v = .tuple #[.agg (valCells (parseV s).1).toArray, .int .i64 (parseV s).2])) := by
  refine enter Tryd.func20 rfl Tryd.ntmps20 rfl ?_
  intro Q hQ a HE
  have HS := St.start0 hG
  refine wp_seq_k (fun K hK => ?_); refine wp_region_lit ?_
  refine o_allocL [(0, _), (1, _), (2, _)] HE rfl HS T.z25 ⟨rfl, rfl, rfl, trivial⟩ ?_; clear HE HS; intro B2 w a HS HE
  refine o_assign HE rfl rfl ?_; clear HE; intro a HE
  refine hK _ _ ?_; clear hK K
  refine wp_seq_k (fun K3 hK2 => ?_)
  refine wp_block ?_
  refine wp_seq_k (fun K hK => ?_); refine wp_region_lit ?_
  refine o_move HE rfl rfl ?_; clear HE; intro a HE
  refine o_eqS HE rfl rfl rfl ?_; clear HE; intro a HE
  refine o_assign HE rfl rfl ?_; clear HE; intro a HE
  refine hK _ _ ?_; clear hK K
  refine cond HE rfl (fun h5 => ?_) (fun h5 => ?_)
  · have h5r := h5; try simp only [Bool.not_eq_true', Bool.not_eq_false', Bool.and_eq_true, Bool.or_eq_true, Bool.or_eq_false_iff, Bool.and_eq_false_iff, decide_eq_true_eq, decide_eq_false_iff_not, beq_iff_eq, beq_eq_false_iff_ne, ne_eq] at h5
    refine wp_seq_k (fun K hK => ?_); refine wp_region_lit ?_
    refine o_build (cs := #[.int .i64 0, .int .i64 0, str []]) HE rfl rfl (by kernel_rfl) ?_; clear HE; intro a HE
    refine o_stA HE HS rfl rfl rfl T.a25 (.here .here) rfl ?_; clear HS; intro w HS
    refine o_assign HE rfl rfl ?_; clear HE; intro a HE
    refine hK _ _ ?_; clear hK K
    refine wp_ret ?_
    show Q .ret _ _
    refine ret hQ HE rfl (HE.resA HS rfl T.a25 (.here .here) rfl (HE.res rfl .nil)) ⟨_, _, HS.stop (List.nil_sublist _), rfl, ?_⟩
    have hp : parseV s = (⟨0, 0, []⟩, 0) := by
      unfold parseV
      rw [if_pos h5]
    show _ = _
    rw [hp]
    rfl
  · have h5r := h5; try simp only [Bool.not_eq_true', Bool.not_eq_false', Bool.and_eq_true, Bool.or_eq_true, Bool.or_eq_false_iff, Bool.and_eq_false_iff, decide_eq_true_eq, decide_eq_false_iff_not, beq_iff_eq, beq_eq_false_iff_ne, ne_eq] at h5
    refine wp_seq_k (fun K hK => ?_); refine wp_region_lit ?_
    refine o_move HE rfl rfl ?_; clear HE; intro a HE
    refine o_eqS HE rfl rfl rfl ?_; clear HE; intro a HE
    refine o_assign HE rfl rfl ?_; clear HE; intro a HE
    refine hK _ _ ?_; clear hK K
    refine cond HE rfl (fun h8 => ?_) (fun h8 => ?_)
    · have h8r := h8; try simp only [Bool.not_eq_true', Bool.not_eq_false', Bool.and_eq_true, Bool.or_eq_true, Bool.or_eq_false_iff, Bool.and_eq_false_iff, decide_eq_true_eq, decide_eq_false_iff_not, beq_iff_eq, beq_eq_false_iff_ne, ne_eq] at h8
      refine wp_seq_k (fun K hK => ?_); refine wp_region_lit ?_
      refine o_ldIA HE rfl HS rfl hg0 T.a25 ?_; clear HE; intro a HE
      refine o_stA HE HS rfl rfl rfl T.a25 (.here .here) rfl ?_; clear HS; intro w HS
      refine o_assign HE rfl rfl ?_; clear HE; intro a HE
      refine hK _ _ ?_; clear hK K
      refine wp_ret ?_
      show Q .ret _ _
      refine ret hQ HE rfl (HE.resA HS rfl T.a25 (.here .here) rfl (HE.res rfl .nil)) ⟨_, _, HS.stop (List.nil_sublist _), rfl, ?_⟩
      have hp : parseV s = (⟨3, 1, []⟩, 0) := by
        unfold parseV
        rw [if_neg h5]
        rw [if_pos h8]
      show _ = _
      rw [hp]
      rfl
    · have h8r := h8; try simp only [Bool.not_eq_true', Bool.not_eq_false', Bool.and_eq_true, Bool.or_eq_true, Bool.or_eq_false_iff, Bool.and_eq_false_iff, decide_eq_true_eq, decide_eq_false_iff_not, beq_iff_eq, beq_eq_false_iff_ne, ne_eq] at h8
      refine wp_seq_k (fun K hK => ?_); refine wp_region_lit ?_
      refine o_move HE rfl rfl ?_; clear HE; intro a HE
      refine o_eqS HE rfl rfl rfl ?_; clear HE; intro a HE
      refine o_assign HE rfl rfl ?_; clear HE; intro a HE
      refine hK _ _ ?_; clear hK K
      refine cond HE rfl (fun h11 => ?_) (fun h11 => ?_)
      · have h11r := h11; try simp only [Bool.not_eq_true', Bool.not_eq_false', Bool.and_eq_true, Bool.or_eq_true, Bool.or_eq_false_iff, Bool.and_eq_false_iff, decide_eq_true_eq, decide_eq_false_iff_not, beq_iff_eq, beq_eq_false_iff_ne, ne_eq] at h11
        refine wp_seq_k (fun K hK => ?_); refine wp_region_lit ?_
        refine o_ldIA HE rfl HS rfl hg1 T.a25 ?_; clear HE; intro a HE
        refine o_stA HE HS rfl rfl rfl T.a25 (.here .here) rfl ?_; clear HS; intro w HS
        refine o_assign HE rfl rfl ?_; clear HE; intro a HE
        refine hK _ _ ?_; clear hK K
        refine wp_ret ?_
        show Q .ret _ _
        refine ret hQ HE rfl (HE.resA HS rfl T.a25 (.here .here) rfl (HE.res rfl .nil)) ⟨_, _, HS.stop (List.nil_sublist _), rfl, ?_⟩
        have hp : parseV s = (⟨3, 0, []⟩, 0) := by
          unfold parseV
          rw [if_neg h5]
          rw [if_neg h8]
          rw [if_pos h11]
        show _ = _
        rw [hp]
        rfl
      · have h11r := h11; try simp only [Bool.not_eq_true', Bool.not_eq_false', Bool.and_eq_true, Bool.or_eq_true, Bool.or_eq_false_iff, Bool.and_eq_false_iff, decide_eq_true_eq, decide_eq_false_iff_not, beq_iff_eq, beq_eq_false_iff_ne, ne_eq] at h11
        refine wp_seq_k (fun K hK => ?_); refine wp_region_lit ?_
        refine o_move HE rfl rfl ?_; clear HE; intro a HE
        refine o_callP HE rfl HS rfl rfl T.g11 (c_isWord s _ _ HS.sub (by first | omega | exact hv.s | (simp; done) | (simp; omega))) ?_
        clear HE HS; rintro _ w a HS rfl HE
        refine o_assign HE rfl rfl ?_; clear HE; intro a HE
        refine hK _ _ ?_; clear hK K
        refine cond HE rfl (fun h14 => ?_) (fun h14 => ?_)
        · have h14r := h14; try simp only [Bool.not_eq_true', Bool.not_eq_false', Bool.and_eq_true, Bool.or_eq_true, Bool.or_eq_false_iff, Bool.and_eq_false_iff, decide_eq_true_eq, decide_eq_false_iff_not, beq_iff_eq, beq_eq_false_iff_ne, ne_eq] at h14
          refine wp_seq_k (fun K hK => ?_); refine wp_region_lit ?_
          refine o_move HE rfl rfl ?_; clear HE; intro a HE
          refine o_build (cs := #[.int .i64 2, .int .i64 0, str s]) HE rfl rfl (by kernel_rfl) ?_; clear HE; intro a HE
          refine o_stA HE HS rfl rfl rfl T.a25 (.here .here) rfl ?_; clear HS; intro w HS
          refine o_assign HE rfl rfl ?_; clear HE; intro a HE
          refine hK _ _ ?_; clear hK K
          refine wp_ret ?_
          show Q .ret _ _
          refine ret hQ HE rfl (HE.resA HS rfl T.a25 (.here .here) rfl (HE.res rfl .nil)) ⟨_, _, HS.stop (List.nil_sublist _), rfl, ?_⟩
          have hp : parseV s = (⟨2, 0, s⟩, 0) := by
            unfold parseV
            rw [if_neg h5]
            rw [if_neg h8]
            rw [if_neg h11]
            rw [if_pos h14]
          show _ = _
          rw [hp]
          rfl
        · have h14r := h14; try simp only [Bool.not_eq_true', Bool.not_eq_false', Bool.and_eq_true, Bool.or_eq_true, Bool.or_eq_false_iff, Bool.and_eq_false_iff, decide_eq_true_eq, decide_eq_false_iff_not, beq_iff_eq, beq_eq_false_iff_ne, ne_eq] at h14
          refine wp_skip ?_
          refine hK2 _ _ ?_; clear hK2
          refine wp_seq_k (fun K hK => ?_); refine wp_region_lit ?_
          refine o_move HE rfl rfl ?_; clear HE; intro a HE
          refine o_callP HE rfl HS rfl rfl T.g38 (c_parse s _ _ HS.sub (by first | omega | (simp; done) | (simp; omega))) ?_
          clear HE HS; rintro _ w a HS rfl HE
          refine o_move HE rfl rfl ?_; clear HE; intro a HE
          refine o_extract HE rfl rfl rfl ?_; clear HE; intro a HE
          refine o_extract HE rfl rfl rfl ?_; clear HE; intro a HE
          refine o_assign HE rfl rfl ?_; clear HE; intro a HE
          refine o_assign HE rfl rfl ?_; clear HE; intro a HE
          refine hK _ _ ?_; clear hK K
          refine wp_seq_k (fun K18 hK17 => ?_)
          refine wp_seq_k (fun K hK => ?_); refine wp_region_lit ?_
          refine o_move HE rfl rfl ?_; clear HE; intro a HE
          refine o_neI HE rfl rfl rfl ?_; clear HE; intro a HE
          refine hK _ _ ?_; clear hK K
          refine cond HE rfl (fun h20 => ?_) (fun h20 => ?_)
          · have h20r := h20; try simp only [Bool.not_eq_true', Bool.not_eq_false', Bool.and_eq_true, Bool.or_eq_true, Bool.or_eq_false_iff, Bool.and_eq_false_iff, decide_eq_true_eq, decide_eq_false_iff_not, beq_iff_eq, beq_eq_false_iff_ne, ne_eq] at h20
            refine wp_seq_k (fun K hK => ?_); refine wp_region_lit ?_
            refine o_build (cs := #[.int .i64 0, .int .i64 0, str []]) HE rfl rfl (by kernel_rfl) ?_; clear HE; intro a HE
            refine o_move HE rfl rfl ?_; clear HE; intro a HE
            refine o_stA HE HS rfl rfl rfl T.a25 (.here .here) rfl ?_; clear HS; intro w HS
            refine o_assign HE rfl rfl ?_; clear HE; intro a HE
            refine hK _ _ ?_; clear hK K
            refine wp_ret ?_
            show Q .ret _ _
            refine ret hQ HE rfl (HE.resA HS rfl T.a25 (.here .here) rfl (HE.res rfl .nil)) ⟨_, _, HS.stop (List.nil_sublist _), rfl, ?_⟩
            have hp : parseV s = (⟨0, 0, []⟩, erv (parseS s)) := by
              unfold parseV
              rw [if_neg h5]
              rw [if_neg h8]
              rw [if_neg h11]
              rw [if_neg (by rw [h14]; decide)]
              rw [if_pos h20]
            show _ = _
            rw [hp]
            rfl
          · have h20r := h20; try simp only [Bool.not_eq_true', Bool.not_eq_false', Bool.and_eq_true, Bool.or_eq_true, Bool.or_eq_false_iff, Bool.and_eq_false_iff, decide_eq_true_eq, decide_eq_false_iff_not, beq_iff_eq, beq_eq_false_iff_ne, ne_eq] at h20
            refine wp_skip ?_
            refine hK17 _ _ ?_; clear hK17
            refine wp_seq_k (fun K hK => ?_); refine wp_region_lit ?_
            refine o_move HE rfl rfl ?_; clear HE; intro a HE
            refine o_build (cs := #[.int .i64 1, .int .i64 (okv (parseS s)), str []]) HE rfl rfl (by kernel_rfl) ?_; clear HE; intro a HE
            refine o_stA HE HS rfl rfl rfl T.a25 (.here .here) rfl ?_; clear HS; intro w HS
            refine o_assign HE rfl rfl ?_; clear HE; intro a HE
            refine hK _ _ ?_; clear hK K
            refine wp_ret ?_
            show Q .ret _ _
            refine ret hQ HE rfl (HE.resA HS rfl T.a25 (.here .here) rfl (HE.res rfl .nil)) ⟨_, _, HS.stop (List.nil_sublist _), rfl, ?_⟩
            have hp : parseV s = (⟨1, okv (parseS s), []⟩, 0) := by
              unfold parseV
              rw [if_neg h5]
              rw [if_neg h8]
              rw [if_neg h11]
              rw [if_neg (by rw [h14]; decide)]
              rw [if_neg (by simp [h20])]
            show _ = _
            rw [hp]
            rfl

/-! `incognito/incognitolaw07.wakes` -/
set_option maxRecDepth 100000 in
set_option maxHeartbeats 4000000 in
theorem c_wakes7  (w0 : World) (G : Heap) (hG : Sub G w0) (hg0 : CellsAt G 0 0 [.int .i64 3, .int .i64 1, str []]) (hg1 : CellsAt G 1 0 [.int .i64 3, .int .i64 0, str []]):
    Calls Tryd.prog 10 #[] w0 (Ret w0 G (fun v _ => v = .bool true)) := by
  refine enter Tryd.func10 rfl Tryd.ntmps10 rfl ?_
  intro Q hQ a HE
  have HS := St.start0 hG
  refine wp_seq_k (fun K hK => ?_); refine wp_region_lit ?_
  refine o_assign HE rfl rfl ?_; clear HE; intro a HE
  refine hK _ _ ?_; clear hK K
  refine wp_seq_k (fun K hK => ?_); refine wp_region_lit ?_
  refine o_callP HE rfl HS rfl rfl T.g20 (c_parseV [84] _ _ HS.sub hg0 hg1 (by first | omega | (simp; done) | (simp; omega))) ?_
  clear HE HS; rintro _ w a HS rfl HE
  refine o_move HE rfl rfl ?_; clear HE; intro a HE
  refine o_extract HE rfl rfl rfl ?_; clear HE; intro a HE
  refine o_extract HE rfl rfl rfl ?_; clear HE; intro a HE
  refine o_allocL [(0, _), (1, _), (2, _)] HE rfl HS T.z25 ⟨rfl, rfl, rfl, trivial⟩ ?_; clear HE HS; intro B1 w a HS HE
  refine o_stA HE HS rfl rfl rfl T.a25 (.here .here) rfl ?_; clear HS; intro w HS
  refine o_assign HE rfl rfl ?_; clear HE; intro a HE
  refine hK _ _ ?_; clear hK K
  refine wp_seq_k (fun K hK => ?_); refine wp_region_lit ?_
  refine o_callP HE rfl HS rfl rfl T.g20 (c_parseV [116, 49] _ _ HS.sub hg0 hg1 (by first | omega | (simp; done) | (simp; omega))) ?_
  clear HE HS; rintro _ w a HS rfl HE
  refine o_move HE rfl rfl ?_; clear HE; intro a HE
  refine o_extract HE rfl rfl rfl ?_; clear HE; intro a HE
  refine o_extract HE rfl rfl rfl ?_; clear HE; intro a HE
  refine o_allocL [(0, _), (1, _), (2, _)] HE rfl HS T.z25 ⟨rfl, rfl, rfl, trivial⟩ ?_; clear HE HS; intro B3 w a HS HE
  refine o_stA HE HS rfl rfl rfl T.a25 (.here .here) rfl ?_; clear HS; intro w HS
  refine o_assign HE rfl rfl ?_; clear HE; intro a HE
  refine hK _ _ ?_; clear hK K
  refine wp_seq_k (fun K hK => ?_); refine wp_region_lit ?_
  refine o_callP HE rfl HS rfl rfl T.g20 (c_parseV [49, 116] _ _ HS.sub hg0 hg1 (by first | omega | (simp; done) | (simp; omega))) ?_
  clear HE HS; rintro _ w a HS rfl HE
  refine o_move HE rfl rfl ?_; clear HE; intro a HE
  refine o_extract HE rfl rfl rfl ?_; clear HE; intro a HE
  refine o_extract HE rfl rfl rfl ?_; clear HE; intro a HE
  refine o_allocL [(0, _), (1, _), (2, _)] HE rfl HS T.z25 ⟨rfl, rfl, rfl, trivial⟩ ?_; clear HE HS; intro B5 w a HS HE
  refine o_stA HE HS rfl rfl rfl T.a25 (.here .here) rfl ?_; clear HS; intro w HS
  refine o_assign HE rfl rfl ?_; clear HE; intro a HE
  refine hK _ _ ?_; clear hK K
  refine wp_seq_k (fun K hK => ?_); refine wp_region_lit ?_
  refine o_move HE rfl rfl ?_; clear HE; intro a HE
  refine o_eqI HE rfl rfl rfl ?_; clear HE; intro a HE
  refine o_move HE rfl rfl ?_; clear HE; intro a HE
  refine cutL 4 (fun a' w' => w = w' ∧ Env a' 39 [] [(25, .bool ((decide (((parseV [84]).2) = 0)) && (decide (((parseV [84]).1.k) = 3) && (decide (((parseV [84]).1.n) = 1) && (((parseV [84]).1.s) == [] && true))))), (0, .bool false), (1, .pointer (some ⟨B1, 0, none⟩)), (3, .pointer (some ⟨B3, 0, none⟩)), (4, .int .i64 ((parseV [116, 49]).2)), (5, .pointer (some ⟨B5, 0, none⟩)), (6, .int .i64 ((parseV [49, 116]).2)), (7, .tuple #[.agg #[.int .i64 ((parseV [84]).1.k), .int .i64 ((parseV [84]).1.n), str ((parseV [84]).1.s)], .int .i64 ((parseV [84]).2)]), (8, .tuple #[.agg #[.int .i64 ((parseV [84]).1.k), .int .i64 ((parseV [84]).1.n), str ((parseV [84]).1.s)], .int .i64 ((parseV [84]).2)]), (9, .agg #[.int .i64 ((parseV [84]).1.k), .int .i64 ((parseV [84]).1.n), str ((parseV [84]).1.s)]), (10, .int .i64 ((parseV [84]).2)), (11, .tuple #[.agg #[.int .i64 ((parseV [116, 49]).1.k), .int .i64 ((parseV [116, 49]).1.n), str ((parseV [116, 49]).1.s)], .int .i64 ((parseV [116, 49]).2)]), (12, .tuple #[.agg #[.int .i64 ((parseV [116, 49]).1.k), .int .i64 ((parseV [116, 49]).1.n), str ((parseV [116, 49]).1.s)], .int .i64 ((parseV [116, 49]).2)]), (13, .agg #[.int .i64 ((parseV [116, 49]).1.k), .int .i64 ((parseV [116, 49]).1.n), str ((parseV [116, 49]).1.s)]), (14, .int .i64 ((parseV [116, 49]).2)), (15, .tuple #[.agg #[.int .i64 ((parseV [49, 116]).1.k), .int .i64 ((parseV [49, 116]).1.n), str ((parseV [49, 116]).1.s)], .int .i64 ((parseV [49, 116]).2)]), (16, .tuple #[.agg #[.int .i64 ((parseV [49, 116]).1.k), .int .i64 ((parseV [49, 116]).1.n), str ((parseV [49, 116]).1.s)], .int .i64 ((parseV [49, 116]).2)]), (17, .agg #[.int .i64 ((parseV [49, 116]).1.k), .int .i64 ((parseV [49, 116]).1.n), str ((parseV [49, 116]).1.s)]), (18, .int .i64 ((parseV [49, 116]).2))]) ?_ ?_
  · refine (Bool.eq_false_or_eq_true (decide (((parseV [84]).2) = 0))).elim (fun hb5 => ?_) (fun hb5 => ?_)
    · skip
      have hk6 := hb5; try simp only [Bool.not_eq_true', Bool.not_eq_false', Bool.and_eq_true, Bool.or_eq_true, Bool.or_eq_false_iff, decide_eq_true_eq, decide_eq_false_iff_not, beq_iff_eq, beq_eq_false_iff_ne, ne_eq] at hk6
      refine op_on HE rfl rfl hb5 ?_
      refine o_ldA HE rfl HS rfl T.a25 (.there (.there (.here .here))) rfl ?_; clear HE; intro a HE
      refine op_on HE rfl rfl hb5 ?_
      refine o_build (cs := #[.int .i64 3, .int .i64 1, str []]) HE rfl rfl (by kernel_rfl) ?_; clear HE; intro a HE
      refine op_on HE rfl rfl hb5 ?_
      refine o_eqA (b := decide (((parseV [84]).1.k) = 3) && (decide (((parseV [84]).1.n) = 1) && (((parseV [84]).1.s) == [] && true))) HE rfl rfl rfl T.q25 rfl rfl ?_; clear HE; intro a HE
      refine o_pick_t HE rfl rfl hb5 rfl ?_; clear HE; intro a HE
      exact ⟨rfl, HE.cut ⟨by rw [hb5]; rfl, rfl, rfl, rfl, rfl, rfl, rfl, rfl, rfl, rfl, rfl, rfl, rfl, rfl, rfl, rfl, rfl, rfl, rfl, trivial⟩⟩
    · skip
      have hk7 := hb5; try simp only [Bool.not_eq_true', Bool.not_eq_false', Bool.and_eq_true, Bool.or_eq_true, Bool.or_eq_false_iff, decide_eq_true_eq, decide_eq_false_iff_not, beq_iff_eq, beq_eq_false_iff_ne, ne_eq] at hk7
      refine g_off HE rfl rfl rfl hb5 ?_; clear HE; intro a HE
      refine g_off HE rfl rfl rfl hb5 ?_; clear HE; intro a HE
      refine g_off HE rfl rfl rfl hb5 ?_; clear HE; intro a HE
      refine o_pick_f HE rfl rfl hb5 rfl ?_; clear HE; intro a HE
      exact ⟨rfl, HE.cut ⟨by rw [hb5]; rfl, rfl, rfl, rfl, rfl, rfl, rfl, rfl, rfl, rfl, rfl, rfl, rfl, rfl, rfl, rfl, rfl, rfl, rfl, trivial⟩⟩
  clear HE; rintro a _ ⟨rfl, HE⟩
  refine o_move HE rfl rfl ?_; clear HE; intro a HE
  refine cutL 3 (fun a' w' => w = w' ∧ Env a' 39 [] [(29, .bool (((decide (((parseV [84]).2) = 0)) && (decide (((parseV [84]).1.k) = 3) && (decide (((parseV [84]).1.n) = 1) && (((parseV [84]).1.s) == [] && true)))) && (decide (((parseV [116, 49]).2) = 0)))), (0, .bool false), (1, .pointer (some ⟨B1, 0, none⟩)), (3, .pointer (some ⟨B3, 0, none⟩)), (5, .pointer (some ⟨B5, 0, none⟩)), (6, .int .i64 ((parseV [49, 116]).2)), (7, .tuple #[.agg #[.int .i64 ((parseV [84]).1.k), .int .i64 ((parseV [84]).1.n), str ((parseV [84]).1.s)], .int .i64 ((parseV [84]).2)]), (8, .tuple #[.agg #[.int .i64 ((parseV [84]).1.k), .int .i64 ((parseV [84]).1.n), str ((parseV [84]).1.s)], .int .i64 ((parseV [84]).2)]), (9, .agg #[.int .i64 ((parseV [84]).1.k), .int .i64 ((parseV [84]).1.n), str ((parseV [84]).1.s)]), (10, .int .i64 ((parseV [84]).2)), (11, .tuple #[.agg #[.int .i64 ((parseV [116, 49]).1.k), .int .i64 ((parseV [116, 49]).1.n), str ((parseV [116, 49]).1.s)], .int .i64 ((parseV [116, 49]).2)]), (12, .tuple #[.agg #[.int .i64 ((parseV [116, 49]).1.k), .int .i64 ((parseV [116, 49]).1.n), str ((parseV [116, 49]).1.s)], .int .i64 ((parseV [116, 49]).2)]), (13, .agg #[.int .i64 ((parseV [116, 49]).1.k), .int .i64 ((parseV [116, 49]).1.n), str ((parseV [116, 49]).1.s)]), (14, .int .i64 ((parseV [116, 49]).2)), (15, .tuple #[.agg #[.int .i64 ((parseV [49, 116]).1.k), .int .i64 ((parseV [49, 116]).1.n), str ((parseV [49, 116]).1.s)], .int .i64 ((parseV [49, 116]).2)]), (16, .tuple #[.agg #[.int .i64 ((parseV [49, 116]).1.k), .int .i64 ((parseV [49, 116]).1.n), str ((parseV [49, 116]).1.s)], .int .i64 ((parseV [49, 116]).2)]), (17, .agg #[.int .i64 ((parseV [49, 116]).1.k), .int .i64 ((parseV [49, 116]).1.n), str ((parseV [49, 116]).1.s)]), (18, .int .i64 ((parseV [49, 116]).2))]) ?_ ?_
  · refine (Bool.eq_false_or_eq_true ((decide (((parseV [84]).2) = 0)) && (decide (((parseV [84]).1.k) = 3) && (decide (((parseV [84]).1.n) = 1) && (((parseV [84]).1.s) == [] && true))))).elim (fun hb8 => ?_) (fun hb8 => ?_)
    · skip
      have hk9 := hb8; try simp only [Bool.not_eq_true', Bool.not_eq_false', Bool.and_eq_true, Bool.or_eq_true, Bool.or_eq_false_iff, decide_eq_true_eq, decide_eq_false_iff_not, beq_iff_eq, beq_eq_false_iff_ne, ne_eq] at hk9
      refine op_on HE rfl rfl hb8 ?_
      refine o_move HE rfl rfl ?_; clear HE; intro a HE
      refine op_on HE rfl rfl hb8 ?_
      refine o_eqI HE rfl rfl rfl ?_; clear HE; intro a HE
      refine o_pick_t HE rfl rfl hb8 rfl ?_; clear HE; intro a HE
      exact ⟨rfl, HE.cut ⟨by rw [hb8]; rfl, rfl, rfl, rfl, rfl, rfl, rfl, rfl, rfl, rfl, rfl, rfl, rfl, rfl, rfl, rfl, rfl, rfl, trivial⟩⟩
    · skip
      have hk10 := hb8; try simp only [Bool.not_eq_true', Bool.not_eq_false', Bool.and_eq_true, Bool.or_eq_true, Bool.or_eq_false_iff, decide_eq_true_eq, decide_eq_false_iff_not, beq_iff_eq, beq_eq_false_iff_ne, ne_eq] at hk10
      refine g_off HE rfl rfl rfl hb8 ?_; clear HE; intro a HE
      refine g_off HE rfl rfl rfl hb8 ?_; clear HE; intro a HE
      refine o_pick_f HE rfl rfl hb8 rfl ?_; clear HE; intro a HE
      exact ⟨rfl, HE.cut ⟨by rw [hb8]; rfl, rfl, rfl, rfl, rfl, rfl, rfl, rfl, rfl, rfl, rfl, rfl, rfl, rfl, rfl, rfl, rfl, rfl, trivial⟩⟩
  clear HE; rintro a _ ⟨rfl, HE⟩
  refine o_move HE rfl rfl ?_; clear HE; intro a HE
  refine cutL 4 (fun a' w' => w = w' ∧ Env a' 39 [] [(34, .bool ((((decide (((parseV [84]).2) = 0)) && (decide (((parseV [84]).1.k) = 3) && (decide (((parseV [84]).1.n) = 1) && (((parseV [84]).1.s) == [] && true)))) && (decide (((parseV [116, 49]).2) = 0))) && (decide (((parseV [116, 49]).1.k) = 2) && (decide (((parseV [116, 49]).1.n) = 0) && (((parseV [116, 49]).1.s) == [116, 49] && true))))), (0, .bool false), (1, .pointer (some ⟨B1, 0, none⟩)), (3, .pointer (some ⟨B3, 0, none⟩)), (5, .pointer (some ⟨B5, 0, none⟩)), (6, .int .i64 ((parseV [49, 116]).2)), (7, .tuple #[.agg #[.int .i64 ((parseV [84]).1.k), .int .i64 ((parseV [84]).1.n), str ((parseV [84]).1.s)], .int .i64 ((parseV [84]).2)]), (8, .tuple #[.agg #[.int .i64 ((parseV [84]).1.k), .int .i64 ((parseV [84]).1.n), str ((parseV [84]).1.s)], .int .i64 ((parseV [84]).2)]), (9, .agg #[.int .i64 ((parseV [84]).1.k), .int .i64 ((parseV [84]).1.n), str ((parseV [84]).1.s)]), (10, .int .i64 ((parseV [84]).2)), (11, .tuple #[.agg #[.int .i64 ((parseV [116, 49]).1.k), .int .i64 ((parseV [116, 49]).1.n), str ((parseV [116, 49]).1.s)], .int .i64 ((parseV [116, 49]).2)]), (12, .tuple #[.agg #[.int .i64 ((parseV [116, 49]).1.k), .int .i64 ((parseV [116, 49]).1.n), str ((parseV [116, 49]).1.s)], .int .i64 ((parseV [116, 49]).2)]), (13, .agg #[.int .i64 ((parseV [116, 49]).1.k), .int .i64 ((parseV [116, 49]).1.n), str ((parseV [116, 49]).1.s)]), (14, .int .i64 ((parseV [116, 49]).2)), (15, .tuple #[.agg #[.int .i64 ((parseV [49, 116]).1.k), .int .i64 ((parseV [49, 116]).1.n), str ((parseV [49, 116]).1.s)], .int .i64 ((parseV [49, 116]).2)]), (16, .tuple #[.agg #[.int .i64 ((parseV [49, 116]).1.k), .int .i64 ((parseV [49, 116]).1.n), str ((parseV [49, 116]).1.s)], .int .i64 ((parseV [49, 116]).2)]), (17, .agg #[.int .i64 ((parseV [49, 116]).1.k), .int .i64 ((parseV [49, 116]).1.n), str ((parseV [49, 116]).1.s)]), (18, .int .i64 ((parseV [49, 116]).2))]) ?_ ?_
  · refine (Bool.eq_false_or_eq_true (((decide (((parseV [84]).2) = 0)) && (decide (((parseV [84]).1.k) = 3) && (decide (((parseV [84]).1.n) = 1) && (((parseV [84]).1.s) == [] && true)))) && (decide (((parseV [116, 49]).2) = 0)))).elim (fun hb11 => ?_) (fun hb11 => ?_)
    · skip
      have hk12 := hb11; try simp only [Bool.not_eq_true', Bool.not_eq_false', Bool.and_eq_true, Bool.or_eq_true, Bool.or_eq_false_iff, decide_eq_true_eq, decide_eq_false_iff_not, beq_iff_eq, beq_eq_false_iff_ne, ne_eq] at hk12
      refine op_on HE rfl rfl hb11 ?_
      refine o_ldA HE rfl HS rfl T.a25 (.there (.here .here)) rfl ?_; clear HE; intro a HE
      refine op_on HE rfl rfl hb11 ?_
      refine o_build (cs := #[.int .i64 2, .int .i64 0, str [116, 49]]) HE rfl rfl (by kernel_rfl) ?_; clear HE; intro a HE
      refine op_on HE rfl rfl hb11 ?_
      refine o_eqA (b := decide (((parseV [116, 49]).1.k) = 2) && (decide (((parseV [116, 49]).1.n) = 0) && (((parseV [116, 49]).1.s) == [116, 49] && true))) HE rfl rfl rfl T.q25 rfl rfl ?_; clear HE; intro a HE
      refine o_pick_t HE rfl rfl hb11 rfl ?_; clear HE; intro a HE
      exact ⟨rfl, HE.cut ⟨by rw [hb11]; rfl, rfl, rfl, rfl, rfl, rfl, rfl, rfl, rfl, rfl, rfl, rfl, rfl, rfl, rfl, rfl, rfl, rfl, trivial⟩⟩
    · skip
      have hk13 := hb11; try simp only [Bool.not_eq_true', Bool.not_eq_false', Bool.and_eq_true, Bool.or_eq_true, Bool.or_eq_false_iff, decide_eq_true_eq, decide_eq_false_iff_not, beq_iff_eq, beq_eq_false_iff_ne, ne_eq] at hk13
      refine g_off HE rfl rfl rfl hb11 ?_; clear HE; intro a HE
      refine g_off HE rfl rfl rfl hb11 ?_; clear HE; intro a HE
      refine g_off HE rfl rfl rfl hb11 ?_; clear HE; intro a HE
      refine o_pick_f HE rfl rfl hb11 rfl ?_; clear HE; intro a HE
      exact ⟨rfl, HE.cut ⟨by rw [hb11]; rfl, rfl, rfl, rfl, rfl, rfl, rfl, rfl, rfl, rfl, rfl, rfl, rfl, rfl, rfl, rfl, rfl, rfl, trivial⟩⟩
  clear HE; rintro a _ ⟨rfl, HE⟩
  refine o_move HE rfl rfl ?_; clear HE; intro a HE
  refine cutL 3 (fun a' w' => w = w' ∧ Env a' 39 [] [(38, .bool (((((decide (((parseV [84]).2) = 0)) && (decide (((parseV [84]).1.k) = 3) && (decide (((parseV [84]).1.n) = 1) && (((parseV [84]).1.s) == [] && true)))) && (decide (((parseV [116, 49]).2) = 0))) && (decide (((parseV [116, 49]).1.k) = 2) && (decide (((parseV [116, 49]).1.n) = 0) && (((parseV [116, 49]).1.s) == [116, 49] && true)))) && (decide (((parseV [49, 116]).2) = 2)))), (0, .bool false), (1, .pointer (some ⟨B1, 0, none⟩)), (3, .pointer (some ⟨B3, 0, none⟩)), (5, .pointer (some ⟨B5, 0, none⟩)), (7, .tuple #[.agg #[.int .i64 ((parseV [84]).1.k), .int .i64 ((parseV [84]).1.n), str ((parseV [84]).1.s)], .int .i64 ((parseV [84]).2)]), (8, .tuple #[.agg #[.int .i64 ((parseV [84]).1.k), .int .i64 ((parseV [84]).1.n), str ((parseV [84]).1.s)], .int .i64 ((parseV [84]).2)]), (9, .agg #[.int .i64 ((parseV [84]).1.k), .int .i64 ((parseV [84]).1.n), str ((parseV [84]).1.s)]), (10, .int .i64 ((parseV [84]).2)), (11, .tuple #[.agg #[.int .i64 ((parseV [116, 49]).1.k), .int .i64 ((parseV [116, 49]).1.n), str ((parseV [116, 49]).1.s)], .int .i64 ((parseV [116, 49]).2)]), (12, .tuple #[.agg #[.int .i64 ((parseV [116, 49]).1.k), .int .i64 ((parseV [116, 49]).1.n), str ((parseV [116, 49]).1.s)], .int .i64 ((parseV [116, 49]).2)]), (13, .agg #[.int .i64 ((parseV [116, 49]).1.k), .int .i64 ((parseV [116, 49]).1.n), str ((parseV [116, 49]).1.s)]), (14, .int .i64 ((parseV [116, 49]).2)), (15, .tuple #[.agg #[.int .i64 ((parseV [49, 116]).1.k), .int .i64 ((parseV [49, 116]).1.n), str ((parseV [49, 116]).1.s)], .int .i64 ((parseV [49, 116]).2)]), (16, .tuple #[.agg #[.int .i64 ((parseV [49, 116]).1.k), .int .i64 ((parseV [49, 116]).1.n), str ((parseV [49, 116]).1.s)], .int .i64 ((parseV [49, 116]).2)]), (17, .agg #[.int .i64 ((parseV [49, 116]).1.k), .int .i64 ((parseV [49, 116]).1.n), str ((parseV [49, 116]).1.s)]), (18, .int .i64 ((parseV [49, 116]).2))]) ?_ ?_
  · refine (Bool.eq_false_or_eq_true ((((decide (((parseV [84]).2) = 0)) && (decide (((parseV [84]).1.k) = 3) && (decide (((parseV [84]).1.n) = 1) && (((parseV [84]).1.s) == [] && true)))) && (decide (((parseV [116, 49]).2) = 0))) && (decide (((parseV [116, 49]).1.k) = 2) && (decide (((parseV [116, 49]).1.n) = 0) && (((parseV [116, 49]).1.s) == [116, 49] && true))))).elim (fun hb14 => ?_) (fun hb14 => ?_)
    · skip
      have hk15 := hb14; try simp only [Bool.not_eq_true', Bool.not_eq_false', Bool.and_eq_true, Bool.or_eq_true, Bool.or_eq_false_iff, decide_eq_true_eq, decide_eq_false_iff_not, beq_iff_eq, beq_eq_false_iff_ne, ne_eq] at hk15
      refine op_on HE rfl rfl hb14 ?_
      refine o_move HE rfl rfl ?_; clear HE; intro a HE
      refine op_on HE rfl rfl hb14 ?_
      refine o_eqI HE rfl rfl rfl ?_; clear HE; intro a HE
      refine o_pick_t HE rfl rfl hb14 rfl ?_; clear HE; intro a HE
      exact ⟨rfl, HE.cut ⟨by rw [hb14]; rfl, rfl, rfl, rfl, rfl, rfl, rfl, rfl, rfl, rfl, rfl, rfl, rfl, rfl, rfl, rfl, rfl, trivial⟩⟩
    · skip
      have hk16 := hb14; try simp only [Bool.not_eq_true', Bool.not_eq_false', Bool.and_eq_true, Bool.or_eq_true, Bool.or_eq_false_iff, decide_eq_true_eq, decide_eq_false_iff_not, beq_iff_eq, beq_eq_false_iff_ne, ne_eq] at hk16
      refine g_off HE rfl rfl rfl hb14 ?_; clear HE; intro a HE
      refine g_off HE rfl rfl rfl hb14 ?_; clear HE; intro a HE
      refine o_pick_f HE rfl rfl hb14 rfl ?_; clear HE; intro a HE
      exact ⟨rfl, HE.cut ⟨by rw [hb14]; rfl, rfl, rfl, rfl, rfl, rfl, rfl, rfl, rfl, rfl, rfl, rfl, rfl, rfl, rfl, rfl, rfl, trivial⟩⟩
  clear HE; rintro a _ ⟨rfl, HE⟩
  refine o_assign HE rfl rfl ?_; clear HE; intro a HE
  refine hK _ _ ?_; clear hK K
  refine wp_ret ?_
  show Q .ret _ _
  refine ret hQ HE rfl (HE.res rfl .nil) ⟨_, _, HS.stop (List.nil_sublist _), rfl, ?_⟩
  show _ = _
  simp only [packed, Value.bool.injEq]
  decide

/-! `cmp.isNaN[int]` -/
set_option maxRecDepth 100000 in
set_option maxHeartbeats 4000000 in
theorem c_nan_int (x : Int) (w0 : World) (G : Heap) (hG : Sub G w0) :
    Calls Tryd.prog 47 #[.int .i64 x] w0 (Ret w0 G (fun v _ => v = .bool false)) := by
  refine enter Tryd.func47 rfl Tryd.ntmps47 rfl ?_
  intro Q hQ a HE
  have HS := St.start0 hG
  refine wp_seq_k (fun K hK => ?_); refine wp_region_lit ?_
  refine o_assign HE rfl rfl ?_; clear HE; intro a HE
  refine hK _ _ ?_; clear hK K
  refine wp_seq_k (fun K hK => ?_); refine wp_region_lit ?_
  refine o_move HE rfl rfl ?_; clear HE; intro a HE
  refine o_move HE rfl rfl ?_; clear HE; intro a HE
  refine o_neI HE rfl rfl rfl ?_; clear HE; intro a HE
  refine o_assign HE rfl rfl ?_; clear HE; intro a HE
  refine hK _ _ ?_; clear hK K
  refine wp_ret ?_
  show Q .ret _ _
  refine ret hQ HE rfl (HE.res rfl .nil) ⟨_, _, HS.stop (List.nil_sublist _), rfl, ?_⟩
  show _ = _
  simp [packed]

/-! `cmp.Compare[int]` -/
set_option maxRecDepth 100000 in
set_option maxHeartbeats 4000000 in
theorem c_cmp_int (x y : Int) (w0 : World) (G : Heap) (hG : Sub G w0) :
    Calls Tryd.prog 33 #[.int .i64 x, .int .i64 y] w0 (Ret w0 G (fun v _ => v = .int .i64 (cmpI x y))) := by
  refine enter Tryd.func33 rfl Tryd.ntmps33 rfl ?_
  intro Q hQ a HE
  have HS := St.start0 hG
  refine wp_seq_k (fun K hK => ?_); refine wp_region_lit ?_
  refine o_assign HE rfl rfl ?_; clear HE; intro a HE
  refine hK _ _ ?_; clear hK K
  refine wp_seq_k (fun K hK => ?_); refine wp_region_lit ?_
  refine o_move HE rfl rfl ?_; clear HE; intro a HE
  refine o_callP HE rfl HS rfl rfl T.g47 (c_nan_int x _ _ HS.sub) ?_
  clear HE HS; rintro _ w a HS rfl HE
  refine o_assign HE rfl rfl ?_; clear HE; intro a HE
  refine hK _ _ ?_; clear hK K
  refine wp_seq_k (fun K hK => ?_); refine wp_region_lit ?_
  refine o_move HE rfl rfl ?_; clear HE; intro a HE
  refine o_callP HE rfl HS rfl rfl T.g47 (c_nan_int y _ _ HS.sub) ?_
  clear HE HS; rintro _ w a HS rfl HE
  refine o_assign HE rfl rfl ?_; clear HE; intro a HE
  refine hK _ _ ?_; clear hK K
  refine wp_seq_k (fun K5 hK4 => ?_)
  refine wp_seq_k (fun K hK => ?_); refine wp_region_lit ?_
  refine o_move HE rfl rfl ?_; clear HE; intro a HE
  refine hK _ _ ?_; clear hK K
  refine cond HE rfl (fun h7 => ?_) (fun h7 => ?_)
  · exact absurd h7 (by decide)
  · have h7r := h7; try simp only [Bool.not_eq_true', Bool.not_eq_false', Bool.and_eq_true, Bool.or_eq_true, Bool.or_eq_false_iff, Bool.and_eq_false_iff, decide_eq_true_eq, decide_eq_false_iff_not, beq_iff_eq, beq_eq_false_iff_ne, ne_eq] at h7
    refine wp_skip ?_
    refine hK4 _ _ ?_; clear hK4
    refine wp_seq_k (fun K9 hK8 => ?_)
    refine wp_seq_k (fun K hK => ?_); refine wp_region_lit ?_
    refine o_move HE rfl rfl ?_; clear HE; intro a HE
    refine hK _ _ ?_; clear hK K
    refine cond HE rfl (fun h11 => ?_) (fun h11 => ?_)
    · exact absurd h11 (by decide)
    · have h11r := h11; try simp only [Bool.not_eq_true', Bool.not_eq_false', Bool.and_eq_true, Bool.or_eq_true, Bool.or_eq_false_iff, Bool.and_eq_false_iff, decide_eq_true_eq, decide_eq_false_iff_not, beq_iff_eq, beq_eq_false_iff_ne, ne_eq] at h11
      refine wp_skip ?_
      refine hK8 _ _ ?_; clear hK8
      refine wp_seq_k (fun K13 hK12 => ?_)
      refine wp_seq_k (fun K hK => ?_); refine wp_region_lit ?_
      refine o_move HE rfl rfl ?_; clear HE; intro a HE
      refine o_move HE rfl rfl ?_; clear HE; intro a HE
      refine o_lss HE rfl rfl rfl ?_; clear HE; intro a HE
      refine hK _ _ ?_; clear hK K
      refine cond HE rfl (fun h15 => ?_) (fun h15 => ?_)
      · have h15r := h15; try simp only [Bool.not_eq_true', Bool.not_eq_false', Bool.and_eq_true, Bool.or_eq_true, Bool.or_eq_false_iff, Bool.and_eq_false_iff, decide_eq_true_eq, decide_eq_false_iff_not, beq_iff_eq, beq_eq_false_iff_ne, ne_eq] at h15
        refine wp_seq_k (fun K hK => ?_); refine wp_region_lit ?_
        refine o_assign HE rfl rfl ?_; clear HE; intro a HE
        refine hK _ _ ?_; clear hK K
        refine wp_ret ?_
        show Q .ret _ _
        refine ret hQ HE rfl (HE.res rfl .nil) ⟨_, _, HS.stop (List.nil_sublist _), rfl, ?_⟩
        show _ = _
        simp only [packed, cmpI]
        rw [if_pos h15]
      · have h15r := h15; try simp only [Bool.not_eq_true', Bool.not_eq_false', Bool.and_eq_true, Bool.or_eq_true, Bool.or_eq_false_iff, Bool.and_eq_false_iff, decide_eq_true_eq, decide_eq_false_iff_not, beq_iff_eq, beq_eq_false_iff_ne, ne_eq] at h15
        refine wp_skip ?_
        refine hK12 _ _ ?_; clear hK12
        refine wp_seq_k (fun K18 hK17 => ?_)
        refine wp_seq_k (fun K hK => ?_); refine wp_region_lit ?_
        refine o_move HE rfl rfl ?_; clear HE; intro a HE
        refine o_move HE rfl rfl ?_; clear HE; intro a HE
        refine o_gtr HE rfl rfl rfl ?_; clear HE; intro a HE
        refine hK _ _ ?_; clear hK K
        refine cond HE rfl (fun h20 => ?_) (fun h20 => ?_)
        · have h20r := h20; try simp only [Bool.not_eq_true', Bool.not_eq_false', Bool.and_eq_true, Bool.or_eq_true, Bool.or_eq_false_iff, Bool.and_eq_false_iff, decide_eq_true_eq, decide_eq_false_iff_not, beq_iff_eq, beq_eq_false_iff_ne, ne_eq] at h20
          refine wp_seq_k (fun K hK => ?_); refine wp_region_lit ?_
          refine o_assign HE rfl rfl ?_; clear HE; intro a HE
          refine hK _ _ ?_; clear hK K
          refine wp_ret ?_
          show Q .ret _ _
          refine ret hQ HE rfl (HE.res rfl .nil) ⟨_, _, HS.stop (List.nil_sublist _), rfl, ?_⟩
          show _ = _
          simp only [packed, cmpI]
          rw [if_neg h15, if_pos h20]
        · have h20r := h20; try simp only [Bool.not_eq_true', Bool.not_eq_false', Bool.and_eq_true, Bool.or_eq_true, Bool.or_eq_false_iff, Bool.and_eq_false_iff, decide_eq_true_eq, decide_eq_false_iff_not, beq_iff_eq, beq_eq_false_iff_ne, ne_eq] at h20
          refine wp_skip ?_
          refine hK17 _ _ ?_; clear hK17
          refine wp_seq_k (fun K hK => ?_); refine wp_region_lit ?_
          refine o_assign HE rfl rfl ?_; clear HE; intro a HE
          refine hK _ _ ?_; clear hK K
          refine wp_ret ?_
          show Q .ret _ _
          refine ret hQ HE rfl (HE.res rfl .nil) ⟨_, _, HS.stop (List.nil_sublist _), rfl, ?_⟩
          show _ = _
          simp only [packed, cmpI]
          rw [if_neg h15, if_neg h20]

/-! `cmp.isNaN[int64]` -/
set_option maxRecDepth 100000 in
set_option maxHeartbeats 4000000 in
theorem c_nan_int64 (x : Int) (w0 : World) (G : Heap) (hG : Sub G w0) :
    Calls Tryd.prog 48 #[.int .i64 x] w0 (Ret w0 G (fun v _ => v = .bool false)) := by
  refine enter Tryd.func48 rfl Tryd.ntmps48 rfl ?_
  intro Q hQ a HE
  have HS := St.start0 hG
  refine wp_seq_k (fun K hK => ?_); refine wp_region_lit ?_
  refine o_assign HE rfl rfl ?_; clear HE; intro a HE
  refine hK _ _ ?_; clear hK K
  refine wp_seq_k (fun K hK => ?_); refine wp_region_lit ?_
  refine o_move HE rfl rfl ?_; clear HE; intro a HE
  refine o_move HE rfl rfl ?_; clear HE; intro a HE
  refine o_neI HE rfl rfl rfl ?_; clear HE; intro a HE
  refine o_assign HE rfl rfl ?_; clear HE; intro a HE
  refine hK _ _ ?_; clear hK K
  refine wp_ret ?_
  show Q .ret _ _
  refine ret hQ HE rfl (HE.res rfl .nil) ⟨_, _, HS.stop (List.nil_sublist _), rfl, ?_⟩
  show _ = _
  simp [packed]

/-! `cmp.Compare[int64]` -/
set_option maxRecDepth 100000 in
set_option maxHeartbeats 4000000 in
theorem c_cmp_int64 (x y : Int) (w0 : World) (G : Heap) (hG : Sub G w0) :
    Calls Tryd.prog 34 #[.int .i64 x, .int .i64 y] w0 (Ret w0 G (fun v _ => v = .int .i64 (cmpI x y))) := by
  refine enter Tryd.func34 rfl Tryd.ntmps34 rfl ?_
  intro Q hQ a HE
  have HS := St.start0 hG
  refine wp_seq_k (fun K hK => ?_); refine wp_region_lit ?_
  refine o_assign HE rfl rfl ?_; clear HE; intro a HE
  refine hK _ _ ?_; clear hK K
  refine wp_seq_k (fun K hK => ?_); refine wp_region_lit ?_
  refine o_move HE rfl rfl ?_; clear HE; intro a HE
  refine o_callP HE rfl HS rfl rfl T.g48 (c_nan_int64 x _ _ HS.sub) ?_
  clear HE HS; rintro _ w a HS rfl HE
  refine o_assign HE rfl rfl ?_; clear HE; intro a HE
  refine hK _ _ ?_; clear hK K
  refine wp_seq_k (fun K hK => ?_); refine wp_region_lit ?_
  refine o_move HE rfl rfl ?_; clear HE; intro a HE
  refine o_callP HE rfl HS rfl rfl T.g48 (c_nan_int64 y _ _ HS.sub) ?_
  clear HE HS; rintro _ w a HS rfl HE
  refine o_assign HE rfl rfl ?_; clear HE; intro a HE
  refine hK _ _ ?_; clear hK K
  refine wp_seq_k (fun K5 hK4 => ?_)
  refine wp_seq_k (fun K hK => ?_); refine wp_region_lit ?_
  refine o_move HE rfl rfl ?_; clear HE; intro a HE
  refine hK _ _ ?_; clear hK K
  refine cond HE rfl (fun h7 => ?_) (fun h7 => ?_)
  · exact absurd h7 (by decide)
  · have h7r := h7; try simp only [Bool.not_eq_true', Bool.not_eq_false', Bool.and_eq_true, Bool.or_eq_true, Bool.or_eq_false_iff, Bool.and_eq_false_iff, decide_eq_true_eq, decide_eq_false_iff_not, beq_iff_eq, beq_eq_false_iff_ne, ne_eq] at h7
    refine wp_skip ?_
    refine hK4 _ _ ?_; clear hK4
    refine wp_seq_k (fun K9 hK8 => ?_)
    refine wp_seq_k (fun K hK => ?_); refine wp_region_lit ?_
    refine o_move HE rfl rfl ?_; clear HE; intro a HE
    refine hK _ _ ?_; clear hK K
    refine cond HE rfl (fun h11 => ?_) (fun h11 => ?_)
    · exact absurd h11 (by decide)
    · have h11r := h11; try simp only [Bool.not_eq_true', Bool.not_eq_false', Bool.and_eq_true, Bool.or_eq_true, Bool.or_eq_false_iff, Bool.and_eq_false_iff, decide_eq_true_eq, decide_eq_false_iff_not, beq_iff_eq, beq_eq_false_iff_ne, ne_eq] at h11
      refine wp_skip ?_
      refine hK8 _ _ ?_; clear hK8
      refine wp_seq_k (fun K13 hK12 => ?_)
      refine wp_seq_k (fun K hK => ?_); refine wp_region_lit ?_
      refine o_move HE rfl rfl ?_; clear HE; intro a HE
      refine o_move HE rfl rfl ?_; clear HE; intro a HE
      refine o_lss HE rfl rfl rfl ?_; clear HE; intro a HE
      refine hK _ _ ?_; clear hK K
      refine cond HE rfl (fun h15 => ?_) (fun h15 => ?_)
      · have h15r := h15; try simp only [Bool.not_eq_true', Bool.not_eq_false', Bool.and_eq_true, Bool.or_eq_true, Bool.or_eq_false_iff, Bool.and_eq_false_iff, decide_eq_true_eq, decide_eq_false_iff_not, beq_iff_eq, beq_eq_false_iff_ne, ne_eq] at h15
        refine wp_seq_k (fun K hK => ?_); refine wp_region_lit ?_
        refine o_assign HE rfl rfl ?_; clear HE; intro a HE
        refine hK _ _ ?_; clear hK K
        refine wp_ret ?_
        show Q .ret _ _
        refine ret hQ HE rfl (HE.res rfl .nil) ⟨_, _, HS.stop (List.nil_sublist _), rfl, ?_⟩
        show _ = _
        simp only [packed, cmpI]
        rw [if_pos h15]
      · have h15r := h15; try simp only [Bool.not_eq_true', Bool.not_eq_false', Bool.and_eq_true, Bool.or_eq_true, Bool.or_eq_false_iff, Bool.and_eq_false_iff, decide_eq_true_eq, decide_eq_false_iff_not, beq_iff_eq, beq_eq_false_iff_ne, ne_eq] at h15
        refine wp_skip ?_
        refine hK12 _ _ ?_; clear hK12
        refine wp_seq_k (fun K18 hK17 => ?_)
        refine wp_seq_k (fun K hK => ?_); refine wp_region_lit ?_
        refine o_move HE rfl rfl ?_; clear HE; intro a HE
        refine o_move HE rfl rfl ?_; clear HE; intro a HE
        refine o_gtr HE rfl rfl rfl ?_; clear HE; intro a HE
        refine hK _ _ ?_; clear hK K
        refine cond HE rfl (fun h20 => ?_) (fun h20 => ?_)
        · have h20r := h20; try simp only [Bool.not_eq_true', Bool.not_eq_false', Bool.and_eq_true, Bool.or_eq_true, Bool.or_eq_false_iff, Bool.and_eq_false_iff, decide_eq_true_eq, decide_eq_false_iff_not, beq_iff_eq, beq_eq_false_iff_ne, ne_eq] at h20
          refine wp_seq_k (fun K hK => ?_); refine wp_region_lit ?_
          refine o_assign HE rfl rfl ?_; clear HE; intro a HE
          refine hK _ _ ?_; clear hK K
          refine wp_ret ?_
          show Q .ret _ _
          refine ret hQ HE rfl (HE.res rfl .nil) ⟨_, _, HS.stop (List.nil_sublist _), rfl, ?_⟩
          show _ = _
          simp only [packed, cmpI]
          rw [if_neg h15, if_pos h20]
        · have h20r := h20; try simp only [Bool.not_eq_true', Bool.not_eq_false', Bool.and_eq_true, Bool.or_eq_true, Bool.or_eq_false_iff, Bool.and_eq_false_iff, decide_eq_true_eq, decide_eq_false_iff_not, beq_iff_eq, beq_eq_false_iff_ne, ne_eq] at h20
          refine wp_skip ?_
          refine hK17 _ _ ?_; clear hK17
          refine wp_seq_k (fun K hK => ?_); refine wp_region_lit ?_
          refine o_assign HE rfl rfl ?_; clear HE; intro a HE
          refine hK _ _ ?_; clear hK K
          refine wp_ret ?_
          show Q .ret _ _
          refine ret hQ HE rfl (HE.res rfl .nil) ⟨_, _, HS.stop (List.nil_sublist _), rfl, ?_⟩
          show _ = _
          simp only [packed, cmpI]
          rw [if_neg h15, if_neg h20]

/-! `internal/bytealg.CompareString` -/
set_option maxRecDepth 100000 in
set_option maxHeartbeats 4000000 in
theorem c_cmpS (x y : Bs) (w0 : World) (G : Heap) (hG : Sub G w0) :
    Calls Tryd.prog 49 #[str x, str y] w0 (Ret w0 G (fun v _ => v = .int .i64 (Lib.compareBytes x y))) := by
  refine enter Tryd.func49 rfl Tryd.ntmps49 rfl ?_
  intro Q hQ a HE
  have HS := St.start0 hG
  refine wp_seq_k (fun K hK => ?_); refine wp_region_lit ?_
  refine o_assign HE rfl rfl ?_; clear HE; intro a HE
  refine hK _ _ ?_; clear hK K
  refine wp_seq_k (fun K hK => ?_); refine wp_region_lit ?_
  refine o_move HE rfl rfl ?_; clear HE; intro a HE
  refine o_move HE rfl rfl ?_; clear HE; intro a HE
  refine o_ext HE rfl rfl rfl Tryd.func67 (by kernel_rfl) (by kernel_rfl) (by kernel_rfl) (e := Extern.BytealgCompare.compare) (by kernel_rfl) (Lib.run_compareString _ _ _) ?_; clear HE; intro a HE
  refine o_assign HE rfl rfl ?_; clear HE; intro a HE
  refine hK _ _ ?_; clear hK K
  refine wp_ret ?_
  show Q .ret _ _
  refine ret hQ HE rfl (HE.res rfl .nil) ⟨_, _, HS.stop (List.nil_sublist _), rfl, ?_⟩
  exact rfl

/-! `strings.Compare` -/
set_option maxRecDepth 100000 in
set_option maxHeartbeats 4000000 in
theorem c_cmpStr (x y : Bs) (w0 : World) (G : Heap) (hG : Sub G w0) :
    Calls Tryd.prog 35 #[str x, str y] w0 (Ret w0 G (fun v _ => v = .int .i64 (Lib.compareBytes x y))) := by
  refine enter Tryd.func35 rfl Tryd.ntmps35 rfl ?_
  intro Q hQ a HE
  have HS := St.start0 hG
  refine wp_seq_k (fun K hK => ?_); refine wp_region_lit ?_
  refine o_assign HE rfl rfl ?_; clear HE; intro a HE
  refine hK _ _ ?_; clear hK K
  refine wp_seq_k (fun K hK => ?_); refine wp_region_lit ?_
  refine o_move HE rfl rfl ?_; clear HE; intro a HE
  refine o_move HE rfl rfl ?_; clear HE; intro a HE
  refine o_callP HE rfl HS rfl rfl T.g49 (c_cmpS x y _ _ HS.sub) ?_
  clear HE HS; rintro _ w a HS rfl HE
  refine o_assign HE rfl rfl ?_; clear HE; intro a HE
  refine hK _ _ ?_; clear hK K
  refine wp_ret ?_
  show Q .ret _ _
  refine ret hQ HE rfl (HE.res rfl .nil) ⟨_, _, HS.stop (List.nil_sublist _), rfl, ?_⟩
  exact rfl

/-! `cmp.Or[int]` -/
set_option maxRecDepth 100000 in
set_option maxHeartbeats 4000000 in
theorem c_or (xs : List Int) (A : Option Addr) (c : Nat) (w0 : World) (G : Heap) (hG : Sub G w0) (hR : Rd (Knd.int .i64) G A xs) (hl : xs.length ≤ 9223372036854775807):
    Calls Tryd.prog 32 #[.slice A xs.length c] w0 (Ret w0 G (fun v _ => v = .int .i64 (orL xs))) := by
  refine enter Tryd.func32 rfl Tryd.ntmps32 rfl ?_
  intro Q hQ a HE
  have HS := St.start0 hG
  refine wp_seq_k (fun K hK => ?_); refine wp_region_lit ?_
  refine o_assign HE rfl rfl ?_; clear HE; intro a HE
  refine hK _ _ ?_; clear hK K
  refine wp_seq_k (fun K hK => ?_); refine wp_region_lit ?_
  refine o_assign HE rfl rfl ?_; clear HE; intro a HE
  refine hK _ _ ?_; clear hK K
  refine wp_seq_k (fun K4 hK3 => ?_)
  refine wp_seq_k (fun K hK => ?_); refine wp_region_lit ?_
  refine o_move HE rfl rfl ?_; clear HE; intro a HE
  refine o_lenL HE rfl rfl Tryd.underlying71 ?_; clear HE; intro a HE
  refine o_move HE rfl rfl ?_; clear HE; intro a HE
  refine hK _ _ ?_; clear hK K
  refine wp_block ?_
  refine loop (fun (i : Nat) a' w' => St w0 G [] G w' [] ∧ Env a' 18 [] [(3, .int .i64 0), (6, .slice A xs.length c), (7, .int .i64 (xs.length : Int)), (8, .int .i64 (i : Int))] ∧ (i ≤ xs.length ∧ orL xs = orL (xs.drop i))) (fun (i : Nat) => xs.length - i) 0 ⟨HS, HE.cut ⟨rfl, rfl, rfl, rfl, trivial⟩, ⟨Nat.zero_le _, rfl⟩⟩ ?_
  clear HE HS; intro i a w ⟨HS, HE, ⟨hi, ho⟩⟩
  refine wp_seq_k (fun K hK => ?_); refine wp_region_lit ?_
  refine o_lss HE rfl rfl rfl ?_; clear HE; intro a HE
  refine hK _ _ ?_; clear hK K
  refine wp_seq_k (fun K9 hK8 => ?_)
  refine cond HE rfl (fun h10 => ?_) (fun h10 => ?_)
  · have h10r := h10; try simp only [Bool.not_eq_true', Bool.not_eq_false', Bool.and_eq_true, Bool.or_eq_true, Bool.or_eq_false_iff, Bool.and_eq_false_iff, decide_eq_true_eq, decide_eq_false_iff_not, beq_iff_eq, beq_eq_false_iff_ne, ne_eq] at h10
    refine wp_skip ?_
    refine hK8 _ _ ?_; clear hK8
    refine wp_seq_k (fun K12 hK11 => ?_)
    refine wp_block ?_
    refine wp_seq_k (fun K hK => ?_); refine wp_region_lit ?_
    have hi13 : (i : Int).toNat < xs.length := by omega
    obtain ⟨eb13, eo13, hA13, el13⟩ := Rd.at hR (List.getElem?_eq_getElem hi13); cases hA13
    obtain ⟨x13, ex13⟩ : ∃ x, xs[(i : Int).toNat] = x := ⟨_, rfl⟩; rw [ex13] at el13
    have el13 := kof_open el13
    refine o_ixL HE rfl rfl rfl T.l71 ⟨by omega, by omega⟩ ?_; clear HE; intro a HE
    refine o_ldI HE rfl HS rfl T.s3 el13 (j := 0) rfl rfl ?_; clear HE; intro a HE
    refine o_assign HE rfl rfl ?_; clear HE; intro a HE
    refine hK _ _ ?_; clear hK K
    refine wp_seq_k (fun K hK => ?_); refine wp_region_lit ?_
    refine o_move HE rfl rfl ?_; clear HE; intro a HE
    refine o_move HE rfl rfl ?_; clear HE; intro a HE
    refine o_neI HE rfl rfl rfl ?_; clear HE; intro a HE
    refine hK _ _ ?_; clear hK K
    refine cond HE rfl (fun h16 => ?_) (fun h16 => ?_)
    · have h16r := h16; try simp only [Bool.not_eq_true', Bool.not_eq_false', Bool.and_eq_true, Bool.or_eq_true, Bool.or_eq_false_iff, Bool.and_eq_false_iff, decide_eq_true_eq, decide_eq_false_iff_not, beq_iff_eq, beq_eq_false_iff_ne, ne_eq] at h16
      refine wp_seq_k (fun K hK => ?_); refine wp_region_lit ?_
      refine o_move HE rfl rfl ?_; clear HE; intro a HE
      refine o_assign HE rfl rfl ?_; clear HE; intro a HE
      refine hK _ _ ?_; clear hK K
      refine wp_ret ?_
      show Q .ret _ _
      refine ret hQ HE rfl (HE.res rfl .nil) ⟨_, _, HS.stop (List.nil_sublist _), rfl, ?_⟩
      show _ = _
      rw [ho, List.drop_eq_getElem_cons (show i < xs.length by omega)]
      have ez : xs[i] = x13 := ex13
      rw [ez]
      exact (congrArg (Value.int .i64) (if_neg h16)).symm
    · have h16r := h16; try simp only [Bool.not_eq_true', Bool.not_eq_false', Bool.and_eq_true, Bool.or_eq_true, Bool.or_eq_false_iff, Bool.and_eq_false_iff, decide_eq_true_eq, decide_eq_false_iff_not, beq_iff_eq, beq_eq_false_iff_ne, ne_eq] at h16
      refine wp_skip ?_
      refine hK11 _ _ ?_; clear hK11
      refine wp_region_lit ?_
      refine o_add HE rfl rfl rfl (by omega) ?_; clear HE; intro a HE
      refine o_move HE rfl rfl ?_; clear HE; intro a HE
      have hd2 : orL xs = orL (xs.drop (i + 1)) := by
        rw [ho, List.drop_eq_getElem_cons (show i < xs.length by omega)]
        exact if_pos ((ex13 : xs[i] = x13) ▸ h16)
      exact ⟨i + 1, ⟨HS, HE.cut ⟨rfl, rfl, rfl, rfl, trivial⟩, ⟨by omega, hd2⟩⟩, by omega⟩
  · have h10r := h10; try simp only [Bool.not_eq_true', Bool.not_eq_false', Bool.and_eq_true, Bool.or_eq_true, Bool.or_eq_false_iff, Bool.and_eq_false_iff, decide_eq_true_eq, decide_eq_false_iff_not, beq_iff_eq, beq_eq_false_iff_ne, ne_eq] at h10
    refine wp_exit ?_
    refine hK3 _ _ ?_; clear hK3
    refine wp_seq_k (fun K hK => ?_); refine wp_region_lit ?_
    refine o_move HE rfl rfl ?_; clear HE; intro a HE
    refine o_assign HE rfl rfl ?_; clear HE; intro a HE
    refine hK _ _ ?_; clear hK K
    refine wp_ret ?_
    show Q .ret _ _
    refine ret hQ HE rfl (HE.res rfl .nil) ⟨_, _, HS.stop (List.nil_sublist _), rfl, ?_⟩
    show _ = _
    rw [ho, List.drop_of_length_le (by omega)]
    rfl

/-! `incognito/value.Compare` -/
set_option maxRecDepth 100000 in
set_option maxHeartbeats 4000000 in
theorem c_compare (x y : Val) (w0 : World) (G : Heap) (hG : Sub G w0) :
    Calls Tryd.prog 14 #[.agg #[.int .i64 x.k, .int .i64 x.n, str x.s], .agg #[.int .i64 y.k, .int .i64 y.n, str y.s]] w0 (Ret w0 G (fun v _ => v = .int .i64 (compareV x y))) := by
  refine enter Tryd.func14 rfl Tryd.ntmps14 rfl ?_
  intro Q hQ a HE
  have HS := St.start0 hG
  refine wp_seq_k (fun K hK => ?_); refine wp_region_lit ?_
  refine o_boxL [(0, _), (1, _), (2, _)] HE rfl HS rfl ⟨rfl, rfl, rfl, trivial⟩ ?_; clear HE HS; intro B2 w a HS HE
  refine o_boxL [(0, _), (1, _), (2, _)] HE rfl HS rfl ⟨rfl, rfl, rfl, trivial⟩ ?_; clear HE HS; intro B3 w a HS HE
  refine o_assign HE rfl rfl ?_; clear HE; intro a HE
  refine hK _ _ ?_; clear hK K
  refine wp_seq_k (fun K3 hK2 => ?_)
  replace HE := HE.cut (L' := [(0, .agg #[.int .i64 x.k, .int .i64 x.n, str x.s]), (1, .agg #[.int .i64 y.k, .int .i64 y.n, str y.s]), (2, .pointer (some ⟨B2, 0, none⟩)), (3, .pointer (some ⟨B3, 0, none⟩))]) ⟨rfl, rfl, rfl, rfl, trivial⟩
  refine drawnW [fun v _ => v = .pointer (some ⟨B2, 0, none⟩), fun v _ => v = .int .i64 x.k, fun v _ => v = .pointer (some ⟨B3, 0, none⟩), fun v _ => v = .int .i64 y.k, fun v _ => v = .int .i64 (cmpI x.k y.k), fun v _ => v = .pointer (some ⟨B2, 1, none⟩), fun v _ => v = .int .i64 x.n, fun v _ => v = .pointer (some ⟨B3, 1, none⟩), fun v _ => v = .int .i64 y.n, fun v _ => v = .int .i64 (cmpI x.n y.n), fun v _ => v = .pointer (some ⟨B2, 2, none⟩), fun v _ => v = str x.s, fun v _ => v = .pointer (some ⟨B3, 2, none⟩), fun v _ => v = str y.s, fun v _ => v = .int .i64 (Lib.compareBytes x.s y.s), fun v G' => ∃ Ad c, v = .slice Ad 3 c ∧ 3 ≤ c ∧ Rd (Knd.int .i64) G' Ad [cmpI x.k y.k, cmpI x.n y.n, Lib.compareBytes x.s y.s], fun v _ => v = .int .i64 (orL [cmpI x.k y.k, cmpI x.n y.n, Lib.compareBytes x.s y.s]), fun v _ => v = .int .i64 (orL [cmpI x.k y.k, cmpI x.n y.n, Lib.compareBytes x.s y.s])] T.mix rfl HE HS rfl ⟨fun _ _ _ _ h => h, fun _ _ _ _ h => h, fun _ _ _ _ h => h, fun _ _ _ _ h => h, fun _ _ _ _ h => h, fun _ _ _ _ h => h, fun _ _ _ _ h => h, fun _ _ _ _ h => h, fun _ _ _ _ h => h, fun _ _ _ _ h => h, fun _ _ _ _ h => h, fun _ _ _ _ h => h, fun _ _ _ _ h => h, fun _ _ _ _ h => h, fun _ _ _ _ h => h, fun _ _ _ h hx => SlV.mono h hx, fun _ _ _ _ h => h, fun _ _ _ _ h => h, trivial⟩ ⟨?_, ?_, ?_, ?_, ?_, ?_, ?_, ?_, ?_, ?_, ?_, ?_, ?_, ?_, ?_, ?_, ?_, ?_, trivial⟩ ?_
  · intro a w G1 hl HS HE hp
    refine o_fld HE rfl rfl T.f25_0 ?_; clear HE; intro a HE
    exact ⟨_, _, _, Heap.le.refl _, HS, rfl, HE.get _ _ rfl, HE.defers, rfl⟩
  · intro a w G1 hl HS HE hp
    obtain ⟨_, e0, rfl⟩ := hp 0 5 _ rfl rfl rfl; replace HE := HE.add e0
    refine o_ld HE rfl HS rfl T.s3 (.there (.here .here)) rfl ?_; clear HE; intro a HE
    exact ⟨_, _, _, Heap.le.refl _, HS, rfl, HE.get _ _ rfl, HE.defers, rfl⟩
  · intro a w G1 hl HS HE hp
    refine o_fld HE rfl rfl T.f25_0 ?_; clear HE; intro a HE
    exact ⟨_, _, _, Heap.le.refl _, HS, rfl, HE.get _ _ rfl, HE.defers, rfl⟩
  · intro a w G1 hl HS HE hp
    obtain ⟨_, e2, rfl⟩ := hp 2 7 _ rfl rfl rfl; replace HE := HE.add e2
    refine o_ld HE rfl HS rfl T.s3 (.here .here) rfl ?_; clear HE; intro a HE
    exact ⟨_, _, _, Heap.le.refl _, HS, rfl, HE.get _ _ rfl, HE.defers, rfl⟩
  · intro a w G1 hl HS HE hp
    obtain ⟨_, e1, rfl⟩ := hp 1 6 _ rfl rfl rfl; replace HE := HE.add e1
    obtain ⟨_, e3, rfl⟩ := hp 3 8 _ rfl rfl rfl; replace HE := HE.add e3
    refine o_callP HE rfl HS rfl rfl T.g33 (c_cmp_int x.k y.k _ _ HS.sub) ?_
    clear HE HS; rintro _ w a HS rfl HE
    exact ⟨_, _, _, Heap.le.refl _, HS, rfl, HE.get _ _ rfl, HE.defers, rfl⟩
  · intro a w G1 hl HS HE hp
    refine o_fld HE rfl rfl T.f25_1 ?_; clear HE; intro a HE
    exact ⟨_, _, _, Heap.le.refl _, HS, rfl, HE.get _ _ rfl, HE.defers, rfl⟩
  · intro a w G1 hl HS HE hp
    obtain ⟨_, e5, rfl⟩ := hp 5 10 _ rfl rfl rfl; replace HE := HE.add e5
    refine o_ld HE rfl HS rfl T.s2 (.there (.here .here)) rfl ?_; clear HE; intro a HE
    exact ⟨_, _, _, Heap.le.refl _, HS, rfl, HE.get _ _ rfl, HE.defers, rfl⟩
  · intro a w G1 hl HS HE hp
    refine o_fld HE rfl rfl T.f25_1 ?_; clear HE; intro a HE
    exact ⟨_, _, _, Heap.le.refl _, HS, rfl, HE.get _ _ rfl, HE.defers, rfl⟩
  · intro a w G1 hl HS HE hp
    obtain ⟨_, e7, rfl⟩ := hp 7 12 _ rfl rfl rfl; replace HE := HE.add e7
    refine o_ld HE rfl HS rfl T.s2 (.here .here) rfl ?_; clear HE; intro a HE
    exact ⟨_, _, _, Heap.le.refl _, HS, rfl, HE.get _ _ rfl, HE.defers, rfl⟩
  · intro a w G1 hl HS HE hp
    obtain ⟨_, e6, rfl⟩ := hp 6 11 _ rfl rfl rfl; replace HE := HE.add e6
    obtain ⟨_, e8, rfl⟩ := hp 8 13 _ rfl rfl rfl; replace HE := HE.add e8
    refine o_callP HE rfl HS rfl rfl T.g34 (c_cmp_int64 x.n y.n _ _ HS.sub) ?_
    clear HE HS; rintro _ w a HS rfl HE
    exact ⟨_, _, _, Heap.le.refl _, HS, rfl, HE.get _ _ rfl, HE.defers, rfl⟩
  · intro a w G1 hl HS HE hp
    refine o_fld HE rfl rfl T.f25_2 ?_; clear HE; intro a HE
    exact ⟨_, _, _, Heap.le.refl _, HS, rfl, HE.get _ _ rfl, HE.defers, rfl⟩
  · intro a w G1 hl HS HE hp
    obtain ⟨_, e10, rfl⟩ := hp 10 15 _ rfl rfl rfl; replace HE := HE.add e10
    refine o_ld HE rfl HS rfl T.s9 (.there (.here .here)) rfl ?_; clear HE; intro a HE
    exact ⟨_, _, _, Heap.le.refl _, HS, rfl, HE.get _ _ rfl, HE.defers, rfl⟩
  · intro a w G1 hl HS HE hp
    refine o_fld HE rfl rfl T.f25_2 ?_; clear HE; intro a HE
    exact ⟨_, _, _, Heap.le.refl _, HS, rfl, HE.get _ _ rfl, HE.defers, rfl⟩
  · intro a w G1 hl HS HE hp
    obtain ⟨_, e12, rfl⟩ := hp 12 17 _ rfl rfl rfl; replace HE := HE.add e12
    refine o_ld HE rfl HS rfl T.s9 (.here .here) rfl ?_; clear HE; intro a HE
    exact ⟨_, _, _, Heap.le.refl _, HS, rfl, HE.get _ _ rfl, HE.defers, rfl⟩
  · intro a w G1 hl HS HE hp
    obtain ⟨_, e11, rfl⟩ := hp 11 16 _ rfl rfl rfl; replace HE := HE.add e11
    obtain ⟨_, e13, rfl⟩ := hp 13 18 _ rfl rfl rfl; replace HE := HE.add e13
    refine o_callP HE rfl HS rfl rfl T.g35 (c_cmpStr x.s y.s _ _ HS.sub) ?_
    clear HE HS; rintro _ w a HS rfl HE
    exact ⟨_, _, _, Heap.le.refl _, HS, rfl, HE.get _ _ rfl, HE.defers, rfl⟩
  · intro a w G1 hl HS HE hp
    obtain ⟨_, e4, rfl⟩ := hp 4 9 _ rfl rfl rfl; replace HE := HE.add e4
    obtain ⟨_, e9, rfl⟩ := hp 9 14 _ rfl rfl rfl; replace HE := HE.add e9
    obtain ⟨_, e14, rfl⟩ := hp 14 19 _ rfl rfl rfl; replace HE := HE.add e14
    refine o_buildSl (cs := #[.int .i64 (cmpI x.k y.k), .int .i64 (cmpI x.n y.n), .int .i64 (Lib.compareBytes x.s y.s)]) [(0, _), (1, _), (2, _)] HE rfl HS rfl T.l71 (by kernel_rfl) ⟨rfl, rfl, rfl, trivial⟩ ?_; clear HE HS; intro B20 w a HS HE
    obtain ⟨G2, hle2, hC2, HS'⟩ := HS.stillHead (n := 3) rfl
    exact ⟨_, G2, _, hle2, HS', rfl, HE.get _ _ rfl, HE.defers, ⟨_, _, rfl, Nat.le_refl _, Rd.ofCells hC2 ⟨rfl, rfl, rfl, rfl⟩⟩⟩
  · intro a w G1 hl HS HE hp
    obtain ⟨_, e15, vA15, vc15, rfl, hcp15, hQ15⟩ := hp 15 20 _ rfl rfl rfl; replace HE := HE.add e15
    refine o_callP HE rfl HS rfl rfl T.g32 (c_or [cmpI x.k y.k, cmpI x.n y.n, Lib.compareBytes x.s y.s] _ _ _ _ HS.sub hQ15 (by simp)) ?_
    clear HE HS; rintro _ w a HS rfl HE
    exact ⟨_, _, _, Heap.le.refl _, HS, rfl, HE.get _ _ rfl, HE.defers, rfl⟩
  · intro a w G1 hl HS HE hp
    obtain ⟨_, e16, rfl⟩ := hp 16 21 _ rfl rfl rfl; replace HE := HE.add e16
    refine o_assign HE rfl rfl ?_; clear HE; intro a HE
    exact ⟨_, _, _, Heap.le.refl _, HS, rfl, HE.get _ _ rfl, HE.defers, rfl⟩
  clear HE HS; intro a w G4 hle5 HS HE hp
  obtain ⟨_, e17, rfl⟩ := hp 17 4 _ rfl rfl; replace HE := HE.add e17
  clear hp
  refine hK2 _ _ ?_; clear hK2
  refine wp_ret ?_
  show Q .ret _ _
  refine ret hQ HE rfl (HE.res rfl .nil) ⟨_, _, HS.stop (List.nil_sublist _), rfl, ?_⟩
  exact rfl

/-! `incognito/incognitoref07.Less` -/
set_option maxRecDepth 100000 in
set_option maxHeartbeats 4000000 in
theorem c_less (x y : Val) (w0 : World) (G : Heap) (hG : Sub G w0) :
    Calls Tryd.prog 15 #[.agg #[.int .i64 x.k, .int .i64 x.n, str x.s], .agg #[.int .i64 y.k, .int .i64 y.n, str y.s]] w0 (Ret w0 G (fun v _ => v = .bool (lessV x y))) := by
  refine enter Tryd.func15 rfl Tryd.ntmps15 rfl ?_
  intro Q hQ a HE
  have HS := St.start0 hG
  refine wp_seq_k (fun K hK => ?_); refine wp_region_lit ?_
  refine o_boxL [(0, _), (1, _), (2, _)] HE rfl HS rfl ⟨rfl, rfl, rfl, trivial⟩ ?_; clear HE HS; intro B2 w a HS HE
  refine o_boxL [(0, _), (1, _), (2, _)] HE rfl HS rfl ⟨rfl, rfl, rfl, trivial⟩ ?_; clear HE HS; intro B3 w a HS HE
  refine o_assign HE rfl rfl ?_; clear HE; intro a HE
  refine hK _ _ ?_; clear hK K
  refine wp_seq_k (fun K3 hK2 => ?_)
  refine wp_seq_k (fun K hK => ?_); refine wp_region_lit ?_
  refine o_fld HE rfl rfl T.f25_0 ?_; clear HE; intro a HE
  refine o_ld HE rfl HS rfl T.s3 (.there (.here .here)) rfl ?_; clear HE; intro a HE
  refine o_fld HE rfl rfl T.f25_0 ?_; clear HE; intro a HE
  refine o_ld HE rfl HS rfl T.s3 (.here .here) rfl ?_; clear HE; intro a HE
  refine o_neI HE rfl rfl rfl ?_; clear HE; intro a HE
  refine hK _ _ ?_; clear hK K
  refine cond HE rfl (fun h5 => ?_) (fun h5 => ?_)
  · have h5r := h5; try simp only [Bool.not_eq_true', Bool.not_eq_false', Bool.and_eq_true, Bool.or_eq_true, Bool.or_eq_false_iff, Bool.and_eq_false_iff, decide_eq_true_eq, decide_eq_false_iff_not, beq_iff_eq, beq_eq_false_iff_ne, ne_eq] at h5
    refine wp_seq_k (fun K hK => ?_); refine wp_region_lit ?_
    refine o_fld HE rfl rfl T.f25_0 ?_; clear HE; intro a HE
    refine o_ld HE rfl HS rfl T.s3 (.there (.here .here)) rfl ?_; clear HE; intro a HE
    refine o_fld HE rfl rfl T.f25_0 ?_; clear HE; intro a HE
    refine o_ld HE rfl HS rfl T.s3 (.here .here) rfl ?_; clear HE; intro a HE
    refine o_lss HE rfl rfl rfl ?_; clear HE; intro a HE
    refine o_assign HE rfl rfl ?_; clear HE; intro a HE
    refine hK _ _ ?_; clear hK K
    refine wp_ret ?_
    show Q .ret _ _
    refine ret hQ HE rfl (HE.res rfl .nil) ⟨_, _, HS.stop (List.nil_sublist _), rfl, ?_⟩
    show _ = _
    simp only [packed, Value.bool.injEq]
    symm
    unfold lessV
    rw [if_pos h5]
  · have h5r := h5; try simp only [Bool.not_eq_true', Bool.not_eq_false', Bool.and_eq_true, Bool.or_eq_true, Bool.or_eq_false_iff, Bool.and_eq_false_iff, decide_eq_true_eq, decide_eq_false_iff_not, beq_iff_eq, beq_eq_false_iff_ne, ne_eq] at h5
    refine wp_skip ?_
    refine hK2 _ _ ?_; clear hK2
    refine wp_seq_k (fun K8 hK7 => ?_)
    refine wp_seq_k (fun K hK => ?_); refine wp_region_lit ?_
    refine o_fld HE rfl rfl T.f25_1 ?_; clear HE; intro a HE
    refine o_ld HE rfl HS rfl T.s2 (.there (.here .here)) rfl ?_; clear HE; intro a HE
    refine o_fld HE rfl rfl T.f25_1 ?_; clear HE; intro a HE
    refine o_ld HE rfl HS rfl T.s2 (.here .here) rfl ?_; clear HE; intro a HE
    refine o_neI HE rfl rfl rfl ?_; clear HE; intro a HE
    refine hK _ _ ?_; clear hK K
    refine cond HE rfl (fun h10 => ?_) (fun h10 => ?_)
    · have h10r := h10; try simp only [Bool.not_eq_true', Bool.not_eq_false', Bool.and_eq_true, Bool.or_eq_true, Bool.or_eq_false_iff, Bool.and_eq_false_iff, decide_eq_true_eq, decide_eq_false_iff_not, beq_iff_eq, beq_eq_false_iff_ne, ne_eq] at h10
      refine wp_seq_k (fun K hK => ?_); refine wp_region_lit ?_
      refine o_fld HE rfl rfl T.f25_1 ?_; clear HE; intro a HE
      refine o_ld HE rfl HS rfl T.s2 (.there (.here .here)) rfl ?_; clear HE; intro a HE
      refine o_fld HE rfl rfl T.f25_1 ?_; clear HE; intro a HE
      refine o_ld HE rfl HS rfl T.s2 (.here .here) rfl ?_; clear HE; intro a HE
      refine o_lss HE rfl rfl rfl ?_; clear HE; intro a HE
      refine o_assign HE rfl rfl ?_; clear HE; intro a HE
      refine hK _ _ ?_; clear hK K
      refine wp_ret ?_
      show Q .ret _ _
      refine ret hQ HE rfl (HE.res rfl .nil) ⟨_, _, HS.stop (List.nil_sublist _), rfl, ?_⟩
      show _ = _
      simp only [packed, Value.bool.injEq]
      symm
      unfold lessV
      rw [if_neg (by omega)]
      rw [if_pos h10]
    · have h10r := h10; try simp only [Bool.not_eq_true', Bool.not_eq_false', Bool.and_eq_true, Bool.or_eq_true, Bool.or_eq_false_iff, Bool.and_eq_false_iff, decide_eq_true_eq, decide_eq_false_iff_not, beq_iff_eq, beq_eq_false_iff_ne, ne_eq] at h10
      refine wp_skip ?_
      refine hK7 _ _ ?_; clear hK7
      refine wp_seq_k (fun K hK => ?_); refine wp_region_lit ?_
      refine o_fld HE rfl rfl T.f25_2 ?_; clear HE; intro a HE
      refine o_ld HE rfl HS rfl T.s9 (.there (.here .here)) rfl ?_; clear HE; intro a HE
      refine o_fld HE rfl rfl T.f25_2 ?_; clear HE; intro a HE
      refine o_ld HE rfl HS rfl T.s9 (.here .here) rfl ?_; clear HE; intro a HE
      refine o_ltS HE rfl rfl rfl ?_; clear HE; intro a HE
      refine o_assign HE rfl rfl ?_; clear HE; intro a HE
      refine hK _ _ ?_; clear hK K
      refine wp_ret ?_
      show Q .ret _ _
      refine ret hQ HE rfl (HE.res rfl .nil) ⟨_, _, HS.stop (List.nil_sublist _), rfl, ?_⟩
      show _ = _
      simp only [packed, Value.bool.injEq]
      symm
      unfold lessV
      rw [if_neg (by omega)]
      rw [if_neg (by omega)]

/-! `incognito/incognitolaw07.great` -/
set_option maxRecDepth 100000 in
set_option maxHeartbeats 4000000 in
theorem c_great (xs : List Val) (A : Option Addr) (c : Nat) (w0 : World) (G : Heap) (hG : Sub G w0) (hR : Rd kVal G A xs) (hl : xs.length ≤ 9223372036854775807):
    Calls Tryd.prog 13 #[.slice A xs.length c] w0 (Ret w0 G (fun v _ => ∃ b, v = .bool b)) := by
  refine enter Tryd.func13 rfl Tryd.ntmps13 rfl ?_
  intro Q hQ a HE
  have HS := St.start0 hG
  refine wp_seq_k (fun K hK => ?_); refine wp_region_lit ?_
  refine o_assign HE rfl rfl ?_; clear HE; intro a HE
  refine hK _ _ ?_; clear hK K
  refine wp_seq_k (fun K3 hK2 => ?_)
  refine wp_seq_k (fun K hK => ?_); refine wp_region_lit ?_
  refine o_move HE rfl rfl ?_; clear HE; intro a HE
  refine o_lenL HE rfl rfl Tryd.underlying37 ?_; clear HE; intro a HE
  refine o_move HE rfl rfl ?_; clear HE; intro a HE
  refine hK _ _ ?_; clear hK K
  refine wp_block ?_
  refine loop (fun (i : Nat) a' w' => St w0 G [] G w' [] ∧ Env a' 19 [] [(0, .slice A xs.length c), (5, .slice A xs.length c), (6, .int .i64 (xs.length : Int)), (7, .int .i64 (i : Int))] ∧ (i ≤ xs.length)) (fun (i : Nat) => xs.length - i) 0 ⟨HS, HE.cut ⟨rfl, rfl, rfl, rfl, trivial⟩, Nat.zero_le _⟩ ?_
  clear HE HS; intro i a w ⟨HS, HE, hi⟩
  refine wp_seq_k (fun K hK => ?_); refine wp_region_lit ?_
  refine o_lss HE rfl rfl rfl ?_; clear HE; intro a HE
  refine hK _ _ ?_; clear hK K
  refine wp_seq_k (fun K8 hK7 => ?_)
  refine cond HE rfl (fun h9 => ?_) (fun h9 => ?_)
  · have h9r := h9; try simp only [Bool.not_eq_true', Bool.not_eq_false', Bool.and_eq_true, Bool.or_eq_true, Bool.or_eq_false_iff, Bool.and_eq_false_iff, decide_eq_true_eq, decide_eq_false_iff_not, beq_iff_eq, beq_eq_false_iff_ne, ne_eq] at h9
    refine wp_skip ?_
    refine hK7 _ _ ?_; clear hK7
    refine wp_seq_k (fun K11 hK10 => ?_)
    refine wp_block ?_
    refine wp_seq_k (fun K hK => ?_); refine wp_region_lit ?_
    have hi12 : (i : Int).toNat < xs.length := by omega
    obtain ⟨eb12, eo12, hA12, el12⟩ := Rd.at hR (List.getElem?_eq_getElem hi12); cases hA12
    obtain ⟨x12, ex12⟩ : ∃ x, xs[(i : Int).toNat] = x := ⟨_, rfl⟩; rw [ex12] at el12
    have el12 := kVal_open el12
    refine o_ixL HE rfl rfl rfl T.l37 ⟨by omega, by omega⟩ ?_; clear HE; intro a HE
    refine o_ldIA HE rfl HS rfl el12 T.a25 ?_; clear HE; intro a HE
    refine o_allocL [(0, _), (1, _), (2, _)] HE rfl HS T.z25 ⟨rfl, rfl, rfl, trivial⟩ ?_; clear HE HS; intro B4 w a HS HE
    refine o_stA HE HS rfl rfl rfl T.a25 (.here .here) rfl ?_; clear HS; intro w HS
    refine hK _ _ ?_; clear hK K
    refine wp_seq_k (fun K hK => ?_); refine wp_region_lit ?_
    refine o_fld HE rfl rfl T.f25_2 ?_; clear HE; intro a HE
    refine o_ld HE rfl HS rfl T.s9 (.here .here) rfl ?_; clear HE; intro a HE
    refine o_lenS HE rfl rfl Tryd.underlying9 ?_; clear HE; intro a HE
    refine o_gtr HE rfl rfl rfl ?_; clear HE; intro a HE
    refine hK _ _ ?_; clear hK K
    refine cond HE rfl (fun h15 => ?_) (fun h15 => ?_)
    · have h15r := h15; try simp only [Bool.not_eq_true', Bool.not_eq_false', Bool.and_eq_true, Bool.or_eq_true, Bool.or_eq_false_iff, Bool.and_eq_false_iff, decide_eq_true_eq, decide_eq_false_iff_not, beq_iff_eq, beq_eq_false_iff_ne, ne_eq] at h15
      refine wp_seq_k (fun K hK => ?_); refine wp_region_lit ?_
      refine o_assign HE rfl rfl ?_; clear HE; intro a HE
      refine hK _ _ ?_; clear hK K
      refine wp_ret ?_
      show Q .ret _ _
      refine ret hQ HE rfl (HE.res rfl .nil) ⟨_, _, HS.stop (List.nil_sublist _), rfl, ?_⟩
      exact ⟨_, rfl⟩
    · have h15r := h15; try simp only [Bool.not_eq_true', Bool.not_eq_false', Bool.and_eq_true, Bool.or_eq_true, Bool.or_eq_false_iff, Bool.and_eq_false_iff, decide_eq_true_eq, decide_eq_false_iff_not, beq_iff_eq, beq_eq_false_iff_ne, ne_eq] at h15
      refine wp_skip ?_
      refine hK10 _ _ ?_; clear hK10
      refine wp_region_lit ?_
      refine o_add HE rfl rfl rfl (by omega) ?_; clear HE; intro a HE
      refine o_move HE rfl rfl ?_; clear HE; intro a HE
      replace HS := HS.drop (M' := []) (sub_drop sub_nil)
      exact ⟨i + 1, ⟨HS, HE.cut ⟨rfl, rfl, rfl, rfl, trivial⟩, by omega⟩, by omega⟩
  · have h9r := h9; try simp only [Bool.not_eq_true', Bool.not_eq_false', Bool.and_eq_true, Bool.or_eq_true, Bool.or_eq_false_iff, Bool.and_eq_false_iff, decide_eq_true_eq, decide_eq_false_iff_not, beq_iff_eq, beq_eq_false_iff_ne, ne_eq] at h9
    refine wp_exit ?_
    refine hK2 _ _ ?_; clear hK2
    refine wp_seq_k (fun K hK => ?_); refine wp_region_lit ?_
    refine o_move HE rfl rfl ?_; clear HE; intro a HE
    refine o_lenL HE rfl rfl Tryd.underlying37 ?_; clear HE; intro a HE
    refine o_gtr HE rfl rfl rfl ?_; clear HE; intro a HE
    refine o_assign HE rfl rfl ?_; clear HE; intro a HE
    refine hK _ _ ?_; clear hK K
    refine wp_ret ?_
    show Q .ret _ _
    refine ret hQ HE rfl (HE.res rfl .nil) ⟨_, _, HS.stop (List.nil_sublist _), rfl, ?_⟩
    exact ⟨_, rfl⟩

theorem gPow : Tryd.prog.globalNamed "internal/strconv.uint64pow10" = some 3 := by kernel_rfl

/-! `incognito/incognitolaw07.great` -/
set_option maxRecDepth 100000 in
set_option maxHeartbeats 4000000 in
theorem c_great2 (xs : List Val) (A : Option Addr) (c : Nat) (w0 : World) (G : Heap) (hG : Sub G w0) (hR : Rd kVal G A xs) (hl : xs.length ≤ 9223372036854775807):
    Calls Tryd.prog 13 #[.slice A xs.length c] w0 (Ret w0 G (fun v _ => ∃ b, v = .bool b ∧ (b = false → xs.length ≤ 40))) := by
  refine enter Tryd.func13 rfl Tryd.ntmps13 rfl ?_
  intro Q hQ a HE
  have HS := St.start0 hG
  refine wp_seq_k (fun K hK => ?_); refine wp_region_lit ?_
  refine o_assign HE rfl rfl ?_; clear HE; intro a HE
  refine hK _ _ ?_; clear hK K
  refine wp_seq_k (fun K3 hK2 => ?_)
  refine wp_seq_k (fun K hK => ?_); refine wp_region_lit ?_
  refine o_move HE rfl rfl ?_; clear HE; intro a HE
  refine o_lenL HE rfl rfl Tryd.underlying37 ?_; clear HE; intro a HE
  refine o_move HE rfl rfl ?_; clear HE; intro a HE
  refine hK _ _ ?_; clear hK K
  refine wp_block ?_
  refine loop (fun (i : Nat) a' w' => St w0 G [] G w' [] ∧ Env a' 19 [] [(0, .slice A xs.length c), (5, .slice A xs.length c), (6, .int .i64 (xs.length : Int)), (7, .int .i64 (i : Int))] ∧ (i ≤ xs.length)) (fun (i : Nat) => xs.length - i) 0 ⟨HS, HE.cut ⟨rfl, rfl, rfl, rfl, trivial⟩, Nat.zero_le _⟩ ?_
  clear HE HS; intro i a w ⟨HS, HE, hi⟩
  refine wp_seq_k (fun K hK => ?_); refine wp_region_lit ?_
  refine o_lss HE rfl rfl rfl ?_; clear HE; intro a HE
  refine hK _ _ ?_; clear hK K
  refine wp_seq_k (fun K8 hK7 => ?_)
  refine cond HE rfl (fun h9 => ?_) (fun h9 => ?_)
  · have h9r := h9; try simp only [Bool.not_eq_true', Bool.not_eq_false', Bool.and_eq_true, Bool.or_eq_true, Bool.or_eq_false_iff, Bool.and_eq_false_iff, decide_eq_true_eq, decide_eq_false_iff_not, beq_iff_eq, beq_eq_false_iff_ne, ne_eq] at h9
    refine wp_skip ?_
    refine hK7 _ _ ?_; clear hK7
    refine wp_seq_k (fun K11 hK10 => ?_)
    refine wp_block ?_
    refine wp_seq_k (fun K hK => ?_); refine wp_region_lit ?_
    have hi12 : (i : Int).toNat < xs.length := by omega
    obtain ⟨eb12, eo12, hA12, el12⟩ := Rd.at hR (List.getElem?_eq_getElem hi12); cases hA12
    obtain ⟨x12, ex12⟩ : ∃ x, xs[(i : Int).toNat] = x := ⟨_, rfl⟩; rw [ex12] at el12
    have el12 := kVal_open el12
    refine o_ixL HE rfl rfl rfl T.l37 ⟨by omega, by omega⟩ ?_; clear HE; intro a HE
    refine o_ldIA HE rfl HS rfl el12 T.a25 ?_; clear HE; intro a HE
    refine o_allocL [(0, _), (1, _), (2, _)] HE rfl HS T.z25 ⟨rfl, rfl, rfl, trivial⟩ ?_; clear HE HS; intro B4 w a HS HE
    refine o_stA HE HS rfl rfl rfl T.a25 (.here .here) rfl ?_; clear HS; intro w HS
    refine hK _ _ ?_; clear hK K
    refine wp_seq_k (fun K hK => ?_); refine wp_region_lit ?_
    refine o_fld HE rfl rfl T.f25_2 ?_; clear HE; intro a HE
    refine o_ld HE rfl HS rfl T.s9 (.here .here) rfl ?_; clear HE; intro a HE
    refine o_lenS HE rfl rfl Tryd.underlying9 ?_; clear HE; intro a HE
    refine o_gtr HE rfl rfl rfl ?_; clear HE; intro a HE
    refine hK _ _ ?_; clear hK K
    refine cond HE rfl (fun h15 => ?_) (fun h15 => ?_)
    · have h15r := h15; try simp only [Bool.not_eq_true', Bool.not_eq_false', Bool.and_eq_true, Bool.or_eq_true, Bool.or_eq_false_iff, Bool.and_eq_false_iff, decide_eq_true_eq, decide_eq_false_iff_not, beq_iff_eq, beq_eq_false_iff_ne, ne_eq] at h15
      refine wp_seq_k (fun K hK => ?_); refine wp_region_lit ?_
      refine o_assign HE rfl rfl ?_; clear HE; intro a HE
      refine hK _ _ ?_; clear hK K
      refine wp_ret ?_
      show Q .ret _ _
      refine ret hQ HE rfl (HE.res rfl .nil) ⟨_, _, HS.stop (List.nil_sublist _), rfl, ?_⟩
      exact ⟨true, rfl, fun h => by cases h⟩
    · have h15r := h15; try simp only [Bool.not_eq_true', Bool.not_eq_false', Bool.and_eq_true, Bool.or_eq_true, Bool.or_eq_false_iff, Bool.and_eq_false_iff, decide_eq_true_eq, decide_eq_false_iff_not, beq_iff_eq, beq_eq_false_iff_ne, ne_eq] at h15
      refine wp_skip ?_
      refine hK10 _ _ ?_; clear hK10
      refine wp_region_lit ?_
      refine o_add HE rfl rfl rfl (by omega) ?_; clear HE; intro a HE
      refine o_move HE rfl rfl ?_; clear HE; intro a HE
      replace HS := HS.drop (M' := []) (sub_drop sub_nil)
      exact ⟨i + 1, ⟨HS, HE.cut ⟨rfl, rfl, rfl, rfl, trivial⟩, by omega⟩, by omega⟩
  · have h9r := h9; try simp only [Bool.not_eq_true', Bool.not_eq_false', Bool.and_eq_true, Bool.or_eq_true, Bool.or_eq_false_iff, Bool.and_eq_false_iff, decide_eq_true_eq, decide_eq_false_iff_not, beq_iff_eq, beq_eq_false_iff_ne, ne_eq] at h9
    refine wp_exit ?_
    refine hK2 _ _ ?_; clear hK2
    refine wp_seq_k (fun K hK => ?_); refine wp_region_lit ?_
    refine o_move HE rfl rfl ?_; clear HE; intro a HE
    refine o_lenL HE rfl rfl Tryd.underlying37 ?_; clear HE; intro a HE
    refine o_gtr HE rfl rfl rfl ?_; clear HE; intro a HE
    refine o_assign HE rfl rfl ?_; clear HE; intro a HE
    refine hK _ _ ?_; clear hK K
    refine wp_ret ?_
    show Q .ret _ _
    refine ret hQ HE rfl (HE.res rfl .nil) ⟨_, _, HS.stop (List.nil_sublist _), rfl, ?_⟩
    exact ⟨_, rfl, fun h => by simp at h; omega⟩

/-! `slices.Clone[[]incognito/api.Value,incognito/api.Value]` -/
set_option maxRecDepth 100000 in
set_option maxHeartbeats 4000000 in
theorem c_clone7 (xs : List Val) (A : Option Addr) (c : Nat) (w0 : World) (G : Heap) (hG : Sub G w0) (hR : Rd kVal G A xs) (hl : xs.length ≤ 1000000):
    Calls Tryd.prog 40 #[.slice A xs.length c] w0 (X.Ends w0 G (X.keys []) (fun v G' C' => ∃ A' c', v = .slice A' xs.length c' ∧ X.Own kVal 25 G' A' c' xs C') (fun _ _ _ => False)) := by
  refine enter Tryd.func40 rfl Tryd.ntmps40 rfl ?_
  intro Q hQ a HE
  have HS := St.start0 hG
  refine wp_seq_k (fun K hK => ?_); refine wp_region_lit ?_
  refine o_assign HE rfl rfl ?_; clear HE; intro a HE
  refine hK _ _ ?_; clear hK K
  refine wp_seq_k (fun K3 hK2 => ?_)
  refine wp_seq_k (fun K hK => ?_); refine wp_region_lit ?_
  refine o_move HE rfl rfl ?_; clear HE; intro a HE
  refine o_eqNil HE rfl rfl rfl Tryd.underlying37 ?_; clear HE; intro a HE
  refine hK _ _ ?_; clear hK K
  refine cond HE rfl (fun h5 => ?_) (fun h5 => ?_)
  · have h5r := h5; try simp only [Bool.not_eq_true', Bool.not_eq_false', Bool.and_eq_true, Bool.or_eq_true, Bool.or_eq_false_iff, Bool.and_eq_false_iff, decide_eq_true_eq, decide_eq_false_iff_not, beq_iff_eq, beq_eq_false_iff_ne, ne_eq] at h5
    refine wp_seq_k (fun K hK => ?_); refine wp_region_lit ?_
    refine o_assign HE rfl rfl ?_; clear HE; intro a HE
    refine hK _ _ ?_; clear hK K
    refine wp_ret ?_
    show Q .ret _ _
    refine ret hQ HE rfl (HE.res rfl .nil) ?_
    have hx : xs = [] := by
      rcases hR with h | ⟨b, o, rfl, _⟩
      · exact h
      · exact absurd h5r (by simp)
    subst hx
    exact ⟨_, [], HS.stop (List.nil_sublist _), _, _, rfl, X.Own.nil⟩
  · have h5r := h5; try simp only [Bool.not_eq_true', Bool.not_eq_false', Bool.and_eq_true, Bool.or_eq_true, Bool.or_eq_false_iff, Bool.and_eq_false_iff, decide_eq_true_eq, decide_eq_false_iff_not, beq_iff_eq, beq_eq_false_iff_ne, ne_eq] at h5
    refine wp_skip ?_
    refine hK2 _ _ ?_; clear hK2
    refine wp_seq_k (fun K hK => ?_); refine wp_region_lit ?_
    refine o_buildNil (K := kVal) HE rfl HS T.p37 ?_; clear HE HS; intro oA7 oc7 oC7 w a HS oH7 HE
    refine o_move HE rfl rfl ?_; clear HE; intro a HE
    refine o_append (K := kVal) HE rfl HS .here oH7 rfl rfl T.p37 hR kVal_one (by simp; omega) (by simp; omega) ?_
    clear HE HS; intro oA8 oc8 oC8 w a HS oH8 HE
    refine o_assign HE rfl rfl ?_; clear HE; intro a HE
    refine hK _ _ ?_; clear hK K
    refine wp_ret ?_
    show Q .ret _ _
    refine ret hQ HE rfl (HE.res rfl .nil) ?_
    exact ⟨_, _, HS.stop (List.sublist_append_left _ _), _, _, rfl, oH8⟩

/-! `incognito/value.Sort` -/
set_option maxRecDepth 100000 in
set_option maxHeartbeats 4000000 in
theorem c_sort7 (xs : List Val) (A : Option Addr) (c : Nat) (w0 : World) (G : Heap) (hG : Sub G w0) (hR : Rd kVal G A xs) (hl : xs.length ≤ 1000000):
    Calls Tryd.prog 22 #[.slice A xs.length c] w0 (Ret w0 G (fun v G' => SlV kVal G' v (TS.sortV xs))) := by
  refine enter Tryd.func22 rfl Tryd.ntmps22 rfl ?_
  intro Q hQ a HE
  have HS := St.start0 hG
  refine wp_seq_k (fun K hK => ?_); refine wp_region_lit ?_
  refine o_assign HE rfl rfl ?_; clear HE; intro a HE
  refine hK _ _ ?_; clear hK K
  refine wp_seq_k (fun K hK => ?_); refine wp_region_lit ?_
  refine o_move HE rfl rfl ?_; clear HE; intro a HE
  replace HS := HS.nilChunk
  refine o_callM (A := []) (C := []) HE rfl HS rfl rfl T.g40 (c_clone7 xs _ _ _ _ HS.sub hR (by omega)) ?_ (fun _ _ _ _ _ _ h => h.elim)
  clear HE HS; rintro _ G2 oC2 w a HS hle2 ⟨oA2, oc2, rfl, oH2⟩ HE
  replace hR := hR.le hle2
  refine o_assign HE rfl rfl ?_; clear HE; intro a HE
  refine hK _ _ ?_; clear hK K
  refine wp_seq_k (fun K hK => ?_); refine wp_region_lit ?_
  refine o_move HE rfl rfl ?_; clear HE; intro a HE
  replace HS := HS.front .here
  refine o_callM (A := []) HE rfl HS rfl rfl T.g41 (TS.c_sortf HS oH2 (by omega)) ?_ (fun _ _ _ _ _ _ h => h.elim)
  clear HE HS; rintro _ G4 oC4 w a HS hle4 ⟨rfl, oH4⟩ HE
  replace hR := hR.le hle4
  have hsl4 := TS.sortV_len xs; rw [← hsl4] at HE
  refine hK _ _ ?_; clear hK K
  refine wp_seq_k (fun K hK => ?_); refine wp_region_lit ?_
  refine o_move HE rfl rfl ?_; clear HE; intro a HE
  refine o_assign HE rfl rfl ?_; clear HE; intro a HE
  refine hK _ _ ?_; clear hK K
  refine wp_ret ?_
  have hcphR8 := oH4.cap
  obtain ⟨G7, hle9, HS', hR8⟩ := X.Own.still HS .here oH4; clear HS; have HS := HS'; clear HS'
  replace hR := hR.le hle9
  show Q .ret _ _
  refine ret hQ HE rfl (HE.res rfl .nil) ⟨_, _, HS.stop (List.nil_sublist _), rfl, ?_⟩
  exact ⟨_, _, rfl, by assumption, by assumption⟩

/-! `incognito/incognitoref07.Sort` -/
set_option maxRecDepth 100000 in
set_option maxHeartbeats 4000000 in
theorem c_Sort7 (xs : List Val) (A : Option Addr) (c : Nat) (w0 : World) (G : Heap) (hG : Sub G w0) (hR : Rd kVal G A xs) (hl : xs.length ≤ 1000000):
    Calls Tryd.prog 24 #[.slice A xs.length c] w0 (Ret w0 G (fun v G' => SlV kVal G' v (TS.sortV xs))) := by
  refine enter Tryd.func24 rfl Tryd.ntmps24 rfl ?_
  intro Q hQ a HE
  have HS := St.start0 hG
  refine wp_seq_k (fun K hK => ?_); refine wp_region_lit ?_
  refine o_assign HE rfl rfl ?_; clear HE; intro a HE
  refine hK _ _ ?_; clear hK K
  refine wp_seq_k (fun K hK => ?_); refine wp_region_lit ?_
  refine o_assign HE rfl rfl ?_; clear HE; intro a HE
  refine hK _ _ ?_; clear hK K
  refine wp_seq_k (fun K4 hK3 => ?_)
  refine wp_seq_k (fun K hK => ?_); refine wp_region_lit ?_
  refine o_assign HE rfl rfl ?_; clear HE; intro a HE
  refine hK _ _ ?_; clear hK K
  refine wp_block ?_
  replace HS := HS.nilChunk
  have oH7 : X.Own kVal 25 G none 0 ([] : List Val) [] := X.Own.nil
  refine loop (fun (i : Nat) a' w' => ∃ (oA3_1 : Option Addr) (oc3_1 : Nat) (oC3_1 : Chunk), ∃ GL8, Heap.le G GL8 ∧ St w0 G [] GL8 w' [oC3_1] ∧ Env a' 49 [] [(0, .slice A xs.length c), (3, .slice oA3_1 ((TS.upV xs i).length) oc3_1), (4, .int .i64 ((i : Nat) : Int))] ∧ X.Own kVal 25 GL8 oA3_1 oc3_1 (TS.upV xs i) oC3_1 ∧ (i ≤ xs.length)) (fun (i : Nat) => xs.length - i) 0 ⟨_, _, _, _, Heap.le.refl _, HS, HE.cut ⟨rfl, rfl, rfl, trivial⟩, X.Own.nil (K := kVal), Nat.zero_le _⟩ ?_
  clear HE HS; intro i a w ⟨oA3_1, oc3_1, oC3_1, GL8, hle9, HS, HE, oH3_1, hi⟩
  replace hR := hR.le hle9
  refine wp_seq_k (fun K11 hK10 => ?_)
  refine wp_seq_k (fun K hK => ?_); refine wp_region_lit ?_
  refine o_move HE rfl rfl ?_; clear HE; intro a HE
  refine o_move HE rfl rfl ?_; clear HE; intro a HE
  refine o_lenL HE rfl rfl Tryd.underlying37 ?_; clear HE; intro a HE
  refine o_lss HE rfl rfl rfl ?_; clear HE; intro a HE
  refine hK _ _ ?_; clear hK K
  refine cond HE rfl (fun h13 => ?_) (fun h13 => ?_)
  · have h13r := h13; try simp only [Bool.not_eq_true', Bool.not_eq_false', Bool.and_eq_true, Bool.or_eq_true, Bool.or_eq_false_iff, Bool.and_eq_false_iff, decide_eq_true_eq, decide_eq_false_iff_not, beq_iff_eq, beq_eq_false_iff_ne, ne_eq] at h13
    refine wp_skip ?_
    refine hK10 _ _ ?_; clear hK10
    refine wp_seq_k (fun K15 hK14 => ?_)
    refine wp_block ?_
    refine wp_seq_k (fun K hK => ?_); refine wp_region_lit ?_
    have hcphR17 := oH3_1.cap
    obtain ⟨G16, hle18, HS', hR17⟩ := X.Own.still HS .here oH3_1; clear HS; have HS := HS'; clear HS'
    replace hR := hR.le hle18
    have hul := TS.upV_len xs i (by omega)
    skip
    refine o_move HE rfl rfl ?_; clear HE; intro a HE
    refine o_lenL HE rfl rfl Tryd.underlying37 ?_; clear HE; intro a HE
    refine o_assign HE rfl rfl ?_; clear HE; intro a HE
    refine hK _ _ ?_; clear hK K
    refine wp_seq_k (fun K21 hK20 => ?_)
    refine wp_block ?_
    refine loop (fun (k : Nat) a' w' => St w0 G [] G16 w' [] ∧ Env a' 49 [] [(0, .slice A xs.length c), (3, .slice oA3_1 ((TS.upV xs i).length) oc3_1), (4, .int .i64 ((i : Nat) : Int)), (5, .int .i64 ((k : Nat) : Int))] ∧ (k ≤ (TS.upV xs i).length ∧ TS.posV xs[((i : Nat) : Int).toNat] (TS.upV xs i) k = TS.posV xs[((i : Nat) : Int).toNat] (TS.upV xs i) (TS.upV xs i).length)) (fun (k : Nat) => k) (TS.upV xs i).length ⟨HS, HE.cut ⟨rfl, rfl, rfl, rfl, trivial⟩, ⟨Nat.le_refl _, rfl⟩⟩ ?_
    clear HE HS; intro k a w ⟨HS, HE, ⟨hk, hpk⟩⟩
    refine wp_seq_k (fun K24 hK23 => ?_)
    refine wp_seq_k (fun K26 hK25 => ?_)
    obtain ⟨eb27, eo27, x27, hc27⟩ : ∃ eb eo x, ((decide (0 < ((k : Nat) : Int))) = true → A = some ⟨eb, eo, none⟩ ∧ ElAt kVal G16 eb (eo + ((i : Nat) : Int).toNat * 3) x ∧ ∃ h : ((i : Nat) : Int).toNat < xs.length, xs[((i : Nat) : Int).toNat] = x) := by
      by_cases hg : (decide (0 < ((k : Nat) : Int))) = true
      · have hg2 := hg; simp only [decide_eq_true_eq, decide_eq_false_iff_not] at hg2; have hi : ((i : Nat) : Int).toNat < xs.length := by omega
        obtain ⟨eb, eo, hA, el⟩ := Rd.at hR (List.getElem?_eq_getElem hi)
        exact ⟨eb, eo, _, fun _ => ⟨hA, el, hi, rfl⟩⟩
      · exact ⟨0, 0, default, fun h => absurd h hg⟩
    obtain ⟨eb28, eo28, x28, hc28⟩ : ∃ eb eo x, ((decide (0 < ((k : Nat) : Int))) = true → oA3_1 = some ⟨eb, eo, none⟩ ∧ ElAt kVal G16 eb (eo + (((k : Nat) : Int) - 1).toNat * 3) x ∧ ∃ h : (((k : Nat) : Int) - 1).toNat < (TS.upV xs i).length, (TS.upV xs i)[(((k : Nat) : Int) - 1).toNat] = x) := by
      by_cases hg : (decide (0 < ((k : Nat) : Int))) = true
      · have hg2 := hg; simp only [decide_eq_true_eq, decide_eq_false_iff_not] at hg2; have hi : (((k : Nat) : Int) - 1).toNat < (TS.upV xs i).length := by omega
        obtain ⟨eb, eo, hA, el⟩ := Rd.at hR17 (List.getElem?_eq_getElem hi)
        exact ⟨eb, eo, _, fun _ => ⟨hA, el, hi, rfl⟩⟩
      · exact ⟨0, 0, default, fun h => absurd h hg⟩
    replace HE := HE.cut (L' := [(0, .slice A xs.length c), (3, .slice oA3_1 ((TS.upV xs i).length) oc3_1), (4, .int .i64 ((i : Nat) : Int)), (5, .int .i64 ((k : Nat) : Int))]) ⟨rfl, rfl, rfl, rfl, trivial⟩
    refine drawnP [fun v => v = .int .i64 ((k : Nat) : Int), fun v => v = .bool (decide (0 < ((k : Nat) : Int))), fun v => v = .bool (decide (0 < ((k : Nat) : Int))), fun v => (decide (0 < ((k : Nat) : Int))) = true → v = .slice A xs.length c, fun v => (decide (0 < ((k : Nat) : Int))) = true → v = .int .i64 ((i : Nat) : Int), fun v => (decide (0 < ((k : Nat) : Int))) = true → v = .pointer (some ⟨eb27, eo27 + ((i : Nat) : Int).toNat * 3, none⟩), fun v => (decide (0 < ((k : Nat) : Int))) = true → v = .agg #[.int .i64 x27.k, .int .i64 x27.n, str x27.s], fun v => (decide (0 < ((k : Nat) : Int))) = true → v = .slice oA3_1 ((TS.upV xs i).length) oc3_1, fun v => (decide (0 < ((k : Nat) : Int))) = true → v = .int .i64 ((k : Nat) : Int), fun v => (decide (0 < ((k : Nat) : Int))) = true → v = .int .i64 (((k : Nat) : Int) - 1), fun v => (decide (0 < ((k : Nat) : Int))) = true → v = .pointer (some ⟨eb28, eo28 + (((k : Nat) : Int) - 1).toNat * 3, none⟩), fun v => (decide (0 < ((k : Nat) : Int))) = true → v = .agg #[.int .i64 x28.k, .int .i64 x28.n, str x28.s], fun v => (decide (0 < ((k : Nat) : Int))) = true → v = .bool (lessV x27 x28), fun v => v = .bool ((decide (0 < ((k : Nat) : Int))) && (lessV x27 x28))] T.mix rfl HE HS rfl ⟨?_, ?_, ?_, ?_, ?_, ?_, ?_, ?_, ?_, ?_, ?_, ?_, ?_, ?_, trivial⟩ ?_
    · intro a w G1 hl HS HE hp
      refine o_move HE rfl rfl ?_; clear HE; intro a HE
      exact ⟨_, _, HS, rfl, HE.get _ _ rfl, HE.defers, rfl⟩
    · intro a w G1 hl HS HE hp
      obtain ⟨_, e0, rfl⟩ := hp 0 15 _ rfl rfl rfl; replace HE := HE.add e0
      refine o_gtr HE rfl rfl rfl ?_; clear HE; intro a HE
      exact ⟨_, _, HS, rfl, HE.get _ _ rfl, HE.defers, rfl⟩
    · intro a w G1 hl HS HE hp
      obtain ⟨_, e1, rfl⟩ := hp 1 16 _ rfl rfl rfl; replace HE := HE.add e1
      refine o_move HE rfl rfl ?_; clear HE; intro a HE
      exact ⟨_, _, HS, rfl, HE.get _ _ rfl, HE.defers, rfl⟩
    · intro a w G1 hl HS HE hp
      obtain ⟨_, eg, rfl⟩ := hp 2 17 _ rfl rfl rfl; replace HE := HE.add eg
      refine (Bool.eq_false_or_eq_true (decide (0 < ((k : Nat) : Int)))).elim (fun hb => ?_) (fun hb => ?_)
      · skip
        refine op_on HE rfl rfl hb ?_
        refine o_move HE rfl rfl ?_; clear HE; intro a HE
        exact ⟨_, _, HS, rfl, HE.get _ _ rfl, HE.defers, fun _ => rfl⟩
      · skip
        refine g_off HE rfl rfl rfl hb ?_; clear HE; intro a HE
        exact ⟨_, _, HS, rfl, HE.get _ _ rfl, HE.defers, fun h => absurd (hb.symm.trans h) (by decide)⟩
    · intro a w G1 hl HS HE hp
      obtain ⟨_, eg, rfl⟩ := hp 2 17 _ rfl rfl rfl; replace HE := HE.add eg
      refine (Bool.eq_false_or_eq_true (decide (0 < ((k : Nat) : Int)))).elim (fun hb => ?_) (fun hb => ?_)
      · skip
        refine op_on HE rfl rfl hb ?_
        refine o_move HE rfl rfl ?_; clear HE; intro a HE
        exact ⟨_, _, HS, rfl, HE.get _ _ rfl, HE.defers, fun _ => rfl⟩
      · skip
        refine g_off HE rfl rfl rfl hb ?_; clear HE; intro a HE
        exact ⟨_, _, HS, rfl, HE.get _ _ rfl, HE.defers, fun h => absurd (hb.symm.trans h) (by decide)⟩
    · intro a w G1 hl HS HE hp
      obtain ⟨_, eg, rfl⟩ := hp 2 17 _ rfl rfl rfl; replace HE := HE.add eg
      refine (Bool.eq_false_or_eq_true (decide (0 < ((k : Nat) : Int)))).elim (fun hb => ?_) (fun hb => ?_)
      · skip
        obtain ⟨_, e3, h3v⟩ := hp 3 18 _ rfl rfl rfl; cases h3v hb; replace HE := HE.add e3
        obtain ⟨_, e4, h4v⟩ := hp 4 19 _ rfl rfl rfl; cases h4v hb; replace HE := HE.add e4
        refine op_on HE rfl rfl hb ?_
        have hbk := hb; simp only [decide_eq_true_eq, decide_eq_false_iff_not] at hbk
        obtain ⟨hA27, el27, hi27, ex27⟩ := hc27 hb; cases hA27
        refine o_ixL HE rfl rfl rfl T.l37 ⟨by omega, by omega⟩ ?_; clear HE; intro a HE
        exact ⟨_, _, HS, rfl, HE.get _ _ rfl, HE.defers, fun _ => rfl⟩
      · skip
        refine g_off HE rfl rfl rfl hb ?_; clear HE; intro a HE
        exact ⟨_, _, HS, rfl, HE.get _ _ rfl, HE.defers, fun h => absurd (hb.symm.trans h) (by decide)⟩
    · intro a w G1 hl HS HE hp
      obtain ⟨_, eg, rfl⟩ := hp 2 17 _ rfl rfl rfl; replace HE := HE.add eg
      refine (Bool.eq_false_or_eq_true (decide (0 < ((k : Nat) : Int)))).elim (fun hb => ?_) (fun hb => ?_)
      · skip
        obtain ⟨_, e5, h5v⟩ := hp 5 20 _ rfl rfl rfl; cases h5v hb; replace HE := HE.add e5
        refine op_on HE rfl rfl hb ?_
        obtain ⟨_, el27, _, _⟩ := hc27 hb
        have el27 := kVal_open el27
        refine o_ldIA HE rfl HS rfl (el27.le hl) T.a25 ?_; clear HE; intro a HE
        exact ⟨_, _, HS, rfl, HE.get _ _ rfl, HE.defers, fun _ => rfl⟩
      · skip
        refine g_off HE rfl rfl rfl hb ?_; clear HE; intro a HE
        exact ⟨_, _, HS, rfl, HE.get _ _ rfl, HE.defers, fun h => absurd (hb.symm.trans h) (by decide)⟩
    · intro a w G1 hl HS HE hp
      obtain ⟨_, eg, rfl⟩ := hp 2 17 _ rfl rfl rfl; replace HE := HE.add eg
      refine (Bool.eq_false_or_eq_true (decide (0 < ((k : Nat) : Int)))).elim (fun hb => ?_) (fun hb => ?_)
      · skip
        refine op_on HE rfl rfl hb ?_
        refine o_move HE rfl rfl ?_; clear HE; intro a HE
        exact ⟨_, _, HS, rfl, HE.get _ _ rfl, HE.defers, fun _ => rfl⟩
      · skip
        refine g_off HE rfl rfl rfl hb ?_; clear HE; intro a HE
        exact ⟨_, _, HS, rfl, HE.get _ _ rfl, HE.defers, fun h => absurd (hb.symm.trans h) (by decide)⟩
    · intro a w G1 hl HS HE hp
      obtain ⟨_, eg, rfl⟩ := hp 2 17 _ rfl rfl rfl; replace HE := HE.add eg
      refine (Bool.eq_false_or_eq_true (decide (0 < ((k : Nat) : Int)))).elim (fun hb => ?_) (fun hb => ?_)
      · skip
        refine op_on HE rfl rfl hb ?_
        refine o_move HE rfl rfl ?_; clear HE; intro a HE
        exact ⟨_, _, HS, rfl, HE.get _ _ rfl, HE.defers, fun _ => rfl⟩
      · skip
        refine g_off HE rfl rfl rfl hb ?_; clear HE; intro a HE
        exact ⟨_, _, HS, rfl, HE.get _ _ rfl, HE.defers, fun h => absurd (hb.symm.trans h) (by decide)⟩
    · intro a w G1 hl HS HE hp
      obtain ⟨_, eg, rfl⟩ := hp 2 17 _ rfl rfl rfl; replace HE := HE.add eg
      refine (Bool.eq_false_or_eq_true (decide (0 < ((k : Nat) : Int)))).elim (fun hb => ?_) (fun hb => ?_)
      · skip
        obtain ⟨_, e8, h8v⟩ := hp 8 23 _ rfl rfl rfl; cases h8v hb; replace HE := HE.add e8
        refine op_on HE rfl rfl hb ?_
        refine o_sub HE rfl rfl rfl (by omega) ?_; clear HE; intro a HE
        exact ⟨_, _, HS, rfl, HE.get _ _ rfl, HE.defers, fun _ => rfl⟩
      · skip
        refine g_off HE rfl rfl rfl hb ?_; clear HE; intro a HE
        exact ⟨_, _, HS, rfl, HE.get _ _ rfl, HE.defers, fun h => absurd (hb.symm.trans h) (by decide)⟩
    · intro a w G1 hl HS HE hp
      obtain ⟨_, eg, rfl⟩ := hp 2 17 _ rfl rfl rfl; replace HE := HE.add eg
      refine (Bool.eq_false_or_eq_true (decide (0 < ((k : Nat) : Int)))).elim (fun hb => ?_) (fun hb => ?_)
      · skip
        obtain ⟨_, e7, h7v⟩ := hp 7 22 _ rfl rfl rfl; cases h7v hb; replace HE := HE.add e7
        obtain ⟨_, e9, h9v⟩ := hp 9 24 _ rfl rfl rfl; cases h9v hb; replace HE := HE.add e9
        refine op_on HE rfl rfl hb ?_
        have hbk := hb; simp only [decide_eq_true_eq, decide_eq_false_iff_not] at hbk
        obtain ⟨hA28, el28, hi28, ex28⟩ := hc28 hb; cases hA28
        refine o_ixL HE rfl rfl rfl T.l37 ⟨by omega, by omega⟩ ?_; clear HE; intro a HE
        exact ⟨_, _, HS, rfl, HE.get _ _ rfl, HE.defers, fun _ => rfl⟩
      · skip
        refine g_off HE rfl rfl rfl hb ?_; clear HE; intro a HE
        exact ⟨_, _, HS, rfl, HE.get _ _ rfl, HE.defers, fun h => absurd (hb.symm.trans h) (by decide)⟩
    · intro a w G1 hl HS HE hp
      obtain ⟨_, eg, rfl⟩ := hp 2 17 _ rfl rfl rfl; replace HE := HE.add eg
      refine (Bool.eq_false_or_eq_true (decide (0 < ((k : Nat) : Int)))).elim (fun hb => ?_) (fun hb => ?_)
      · skip
        obtain ⟨_, e10, h10v⟩ := hp 10 25 _ rfl rfl rfl; cases h10v hb; replace HE := HE.add e10
        refine op_on HE rfl rfl hb ?_
        obtain ⟨_, el28, _, _⟩ := hc28 hb
        have el28 := kVal_open el28
        refine o_ldIA HE rfl HS rfl (el28.le hl) T.a25 ?_; clear HE; intro a HE
        exact ⟨_, _, HS, rfl, HE.get _ _ rfl, HE.defers, fun _ => rfl⟩
      · skip
        refine g_off HE rfl rfl rfl hb ?_; clear HE; intro a HE
        exact ⟨_, _, HS, rfl, HE.get _ _ rfl, HE.defers, fun h => absurd (hb.symm.trans h) (by decide)⟩
    · intro a w G1 hl HS HE hp
      obtain ⟨_, eg, rfl⟩ := hp 2 17 _ rfl rfl rfl; replace HE := HE.add eg
      refine (Bool.eq_false_or_eq_true (decide (0 < ((k : Nat) : Int)))).elim (fun hb => ?_) (fun hb => ?_)
      · skip
        obtain ⟨_, e6, h6v⟩ := hp 6 21 _ rfl rfl rfl; cases h6v hb; replace HE := HE.add e6
        obtain ⟨_, e11, h11v⟩ := hp 11 26 _ rfl rfl rfl; cases h11v hb; replace HE := HE.add e11
        refine op_on HE rfl rfl hb ?_
        refine o_callP HE rfl HS rfl rfl T.g15 (c_less x27 x28 _ _ HS.sub) ?_
        clear HE HS; rintro _ w a HS rfl HE
        exact ⟨_, _, HS, rfl, HE.get _ _ rfl, HE.defers, fun _ => rfl⟩
      · skip
        refine g_off HE rfl rfl rfl hb ?_; clear HE; intro a HE
        exact ⟨_, _, HS, rfl, HE.get _ _ rfl, HE.defers, fun h => absurd (hb.symm.trans h) (by decide)⟩
    · intro a w G1 hl HS HE hp
      obtain ⟨_, e2, rfl⟩ := hp 2 17 _ rfl rfl rfl; replace HE := HE.add e2
      refine (Bool.eq_false_or_eq_true (decide (0 < ((k : Nat) : Int)))).elim (fun hb => ?_) (fun hb => ?_)
      · skip
        obtain ⟨_, e12, h12v⟩ := hp 12 27 _ rfl rfl rfl; cases h12v hb; replace HE := HE.add e12
        refine o_pick_t HE rfl rfl hb rfl ?_; clear HE; intro a HE
        exact ⟨_, _, HS, rfl, HE.get _ _ rfl, HE.defers, by rw [hb]; rfl⟩
      · skip
        refine o_pick_f HE rfl rfl hb rfl ?_; clear HE; intro a HE
        exact ⟨_, _, HS, rfl, HE.get _ _ rfl, HE.defers, by rw [hb]; rfl⟩
    clear HE HS; intro a w HS HE hp
    obtain ⟨_, e13, rfl⟩ := hp 13 28 _ rfl rfl; replace HE := HE.add e13
    clear hp
    refine hK25 _ _ ?_; clear hK25
    refine cond HE rfl (fun h29 => ?_) (fun h29 => ?_)
    · have h29r := h29; try simp only [Bool.not_eq_true', Bool.not_eq_false', Bool.and_eq_true, Bool.or_eq_true, Bool.or_eq_false_iff, Bool.and_eq_false_iff, decide_eq_true_eq, decide_eq_false_iff_not, beq_iff_eq, beq_eq_false_iff_ne, ne_eq] at h29
      refine wp_skip ?_
      refine hK23 _ _ ?_; clear hK23
      refine wp_block ?_
      refine wp_region_lit ?_
      refine o_move HE rfl rfl ?_; clear HE; intro a HE
      refine o_sub HE rfl rfl rfl (by omega) ?_; clear HE; intro a HE
      refine o_assign HE rfl rfl ?_; clear HE; intro a HE
      obtain ⟨_, _, hi27, ex27⟩ := hc27 (decide_eq_true h29.1)
      obtain ⟨_, _, hi28, ex28⟩ := hc28 (decide_eq_true h29.1)
      have hk0 := h29.1
      have e1 : ((k : Int) - 1).toNat = k - 1 := by omega
      have hkm : k = (k - 1) + 1 := by omega
      have hl1 : lessV xs[((i : Nat) : Int).toNat] x28 = true := by rw [ex27]; exact h29.2
      have hpk2 : TS.posV xs[((i : Nat) : Int).toNat] (TS.upV xs i) (k - 1) = TS.posV xs[((i : Nat) : Int).toNat] (TS.upV xs i) (TS.upV xs i).length := by
        rw [← hpk]
        conv => rhs; rw [hkm]
        exact (pos_down (k := k - 1) (y := x28) (i := ((k - 1 : Nat) : Int) + 1) rfl (by omega) (by simp only [← ex28, e1]) hl1).symm
      have hv : ((k : Int) - 1) = (((k - 1 : Nat)) : Int) := by omega
      rw [hv] at HE
      exact ⟨k - 1, ⟨HS, HE.cut ⟨rfl, rfl, rfl, rfl, trivial⟩, ⟨by omega, hpk2⟩⟩, by omega⟩
    · have h29r := h29; try simp only [Bool.not_eq_true', Bool.not_eq_false', Bool.and_eq_true, Bool.or_eq_true, Bool.or_eq_false_iff, Bool.and_eq_false_iff, decide_eq_true_eq, decide_eq_false_iff_not, beq_iff_eq, beq_eq_false_iff_ne, ne_eq] at h29
      refine wp_exit ?_
      refine hK20 _ _ ?_; clear hK20
      refine wp_seq_k (fun K hK => ?_); refine wp_region_lit ?_
      refine o_assign HE rfl rfl ?_; clear HE; intro a HE
      refine hK _ _ ?_; clear hK K
      refine wp_seq_k (fun K hK => ?_); refine wp_region_lit ?_
      have hkk : TS.posV xs[((i : Nat) : Int).toNat] (TS.upV xs i) k = k := by
        rcases Nat.eq_zero_or_pos k with h0 | h0
        · subst h0; rfl
        · obtain ⟨_, _, hi27, ex27⟩ := hc27 (decide_eq_true (by omega))
          obtain ⟨_, _, hi28, ex28⟩ := hc28 (decide_eq_true (by omega))
          have hl1 : lessV xs[((i : Nat) : Int).toNat] x28 = false := by
            rw [ex27]
            rcases h29 with h | h
            · omega
            · exact h
          obtain ⟨m, rfl⟩ : ∃ m, k = m + 1 := ⟨k - 1, by omega⟩
          have e1 : (((m + 1 : Nat) : Int) - 1).toNat = m := by omega
          exact pos_stay (y := x28) (by omega) (by simp only [← ex28, e1]) hl1
      have hpk3 : TS.posV (xs[i]'(by omega)) (TS.upV xs i) (TS.upV xs i).length = k := hpk.symm.trans hkk
      refine o_move HE rfl rfl ?_; clear HE; intro a HE
      refine o_move HE rfl rfl ?_; clear HE; intro a HE
      refine o_move HE rfl rfl ?_; clear HE; intro a HE
      refine o_sliceRHi (K := kVal) HE rfl rfl rfl T.l37 hR17 rfl (by first | assumption | omega) (by omega) ?_; clear HE; intro a hR31 hcp31 HE
      replace HS := HS.nilChunk
      have oH33 : X.Own kVal 25 G16 none 0 ([] : List Val) [] := X.Own.nil
      refine o_append (K := kVal) HE rfl HS .here oH33 rfl rfl T.p37 hR31 kVal_one (by simp; omega) (by simp; omega) ?_
      clear HE HS; intro oA34 oc34 oC34 w a HS oH34 HE
      refine o_assign HE rfl rfl ?_; clear HE; intro a HE
      refine hK _ _ ?_; clear hK K
      refine wp_seq_k (fun K hK => ?_); refine wp_region_lit ?_
      refine o_move HE rfl rfl ?_; clear HE; intro a HE
      refine o_move HE rfl rfl ?_; clear HE; intro a HE
      refine o_move HE rfl rfl ?_; clear HE; intro a HE
      have hi36 : ((i : Nat) : Int).toNat < xs.length := by omega
      obtain ⟨eb36, eo36, hA36, el36⟩ := Rd.at hR (List.getElem?_eq_getElem hi36); cases hA36
      obtain ⟨x36, ex36⟩ : ∃ x, xs[((i : Nat) : Int).toNat] = x := ⟨_, rfl⟩; rw [ex36] at el36
      have el36 := kVal_open el36
      refine o_ixL HE rfl rfl rfl T.l37 ⟨by omega, by omega⟩ ?_; clear HE; intro a HE
      refine o_ldIA HE rfl HS rfl el36 T.a25 ?_; clear HE; intro a HE
      refine o_buildSl (cs := #[.int .i64 x36.k, .int .i64 x36.n, str x36.s]) [(0, _), (1, _), (2, _)] HE rfl HS rfl T.l37 (by kernel_rfl) ⟨rfl, rfl, rfl, trivial⟩ ?_; clear HE HS; intro B41 w a HS HE
      refine o_appendL (K := kVal) (ys := [x36]) (n := 3) HE rfl HS (.there .here) oH34 rfl rfl T.p37 (.here .here) rfl ⟨rfl, rfl⟩ rfl rfl (by simp; omega) (by simp; omega) ?_
      clear HE HS; intro oA37 oc37 oC37 w a HS oH37 HE
      refine o_assign HE rfl rfl ?_; clear HE; intro a HE
      refine hK _ _ ?_; clear hK K
      refine wp_region_lit ?_
      refine o_move HE rfl rfl ?_; clear HE; intro a HE
      refine o_move HE rfl rfl ?_; clear HE; intro a HE
      refine o_move HE rfl rfl ?_; clear HE; intro a HE
      refine o_sliceRLo (K := kVal) HE rfl rfl rfl T.l37 rfl hR17 rfl (by first | assumption | omega) (by omega) ?_; clear HE; intro vA39 vc39 a hR39 hcp39 HE
      refine o_append (K := kVal) HE rfl HS .here oH37 rfl rfl T.p37 hR39 kVal_one (by simp; omega) (by simp; omega) ?_
      clear HE HS; intro oA40 oc40 oC40 w a HS oH40 HE
      refine o_assign HE rfl rfl ?_; clear HE; intro a HE
      refine hK14 _ _ ?_; clear hK14
      refine wp_region_lit ?_
      refine o_move HE rfl rfl ?_; clear HE; intro a HE
      refine o_add HE rfl rfl rfl (by omega) ?_; clear HE; intro a HE
      refine o_assign HE rfl rfl ?_; clear HE; intro a HE
      replace HS := HS.drop (M' := [_]) (sub_keep (sub_drop sub_nil))
      have hxs : ((([] ++ ((TS.upV xs i).take ((k : Nat) : Int).toNat)) ++ [x36]) ++ ((TS.upV xs i).drop ((k : Nat) : Int).toNat)) = TS.upV xs (i + 1) := by rw [TS.upV_step (by omega)]; unfold TS.insV; rw [hpk3, ← ex36]; rfl
      rw [hxs] at HE oH40; clear hxs
      exact ⟨i + 1, ⟨_, _, _, _, (hle9.trans hle18), HS, HE.cut ⟨rfl, rfl, rfl, trivial⟩, oH40, by omega⟩, by omega⟩
  · have h13r := h13; try simp only [Bool.not_eq_true', Bool.not_eq_false', Bool.and_eq_true, Bool.or_eq_true, Bool.or_eq_false_iff, Bool.and_eq_false_iff, decide_eq_true_eq, decide_eq_false_iff_not, beq_iff_eq, beq_eq_false_iff_ne, ne_eq] at h13
    refine wp_exit ?_
    refine hK3 _ _ ?_; clear hK3
    refine wp_seq_k (fun K hK => ?_); refine wp_region_lit ?_
    refine o_move HE rfl rfl ?_; clear HE; intro a HE
    refine o_assign HE rfl rfl ?_; clear HE; intro a HE
    refine hK _ _ ?_; clear hK K
    refine wp_ret ?_
    have hcphR43 := oH3_1.cap
    obtain ⟨G42, hle44, HS', hR43⟩ := X.Own.still HS .here oH3_1; clear HS; have HS := HS'; clear HS'
    replace hR := hR.le hle44
    show Q .ret _ _
    refine ret hQ HE rfl (HE.res rfl .nil) ⟨_, _, HS.stop (List.nil_sublist _), rfl, ?_⟩
    have e : i = xs.length := by omega
    subst e
    rw [← TS.upV_sort]
    exact ⟨_, _, rfl, by assumption, by assumption⟩

/-! `incognito/incognitoref07.Same` -/
set_option maxRecDepth 100000 in
set_option maxHeartbeats 4000000 in
theorem c_Same7 (xa : List Val) (Aa : Option Addr) (ca : Nat) (xb : List Val) (Ab : Option Addr) (cb : Nat) (w0 : World) (G : Heap) (hG : Sub G w0) (hRxa : Rd kVal G Aa xa) (hlxa : xa.length ≤ 9223372036854775807) (hRxb : Rd kVal G Ab xb) (hlxb : xb.length ≤ 9223372036854775807):
    Calls Tryd.prog 23 #[.slice Aa xa.length ca, .slice Ab xb.length cb] w0 (Ret w0 G (fun v _ => v = .bool (decide (xa = xb)))) := by
  refine enter Tryd.func23 rfl Tryd.ntmps23 rfl ?_
  intro Q hQ a HE
  have HS := St.start0 hG
  refine wp_seq_k (fun K hK => ?_); refine wp_region_lit ?_
  refine o_assign HE rfl rfl ?_; clear HE; intro a HE
  refine hK _ _ ?_; clear hK K
  refine wp_seq_k (fun K3 hK2 => ?_)
  refine wp_seq_k (fun K hK => ?_); refine wp_region_lit ?_
  refine o_move HE rfl rfl ?_; clear HE; intro a HE
  refine o_lenL HE rfl rfl Tryd.underlying37 ?_; clear HE; intro a HE
  refine o_move HE rfl rfl ?_; clear HE; intro a HE
  refine o_lenL HE rfl rfl Tryd.underlying37 ?_; clear HE; intro a HE
  refine o_neI HE rfl rfl rfl ?_; clear HE; intro a HE
  refine hK _ _ ?_; clear hK K
  refine cond HE rfl (fun h5 => ?_) (fun h5 => ?_)
  · have h5r := h5; try simp only [Bool.not_eq_true', Bool.not_eq_false', Bool.and_eq_true, Bool.or_eq_true, Bool.or_eq_false_iff, Bool.and_eq_false_iff, decide_eq_true_eq, decide_eq_false_iff_not, beq_iff_eq, beq_eq_false_iff_ne, ne_eq] at h5
    refine wp_seq_k (fun K hK => ?_); refine wp_region_lit ?_
    refine o_assign HE rfl rfl ?_; clear HE; intro a HE
    refine hK _ _ ?_; clear hK K
    refine wp_ret ?_
    show Q .ret _ _
    refine ret hQ HE rfl (HE.res rfl .nil) ⟨_, _, HS.stop (List.nil_sublist _), rfl, ?_⟩
    show _ = _
    simp only [packed, Value.bool.injEq]
    exact (decide_eq_false fun e => by subst e; omega).symm
  · have h5r := h5; try simp only [Bool.not_eq_true', Bool.not_eq_false', Bool.and_eq_true, Bool.or_eq_true, Bool.or_eq_false_iff, Bool.and_eq_false_iff, decide_eq_true_eq, decide_eq_false_iff_not, beq_iff_eq, beq_eq_false_iff_ne, ne_eq] at h5
    refine wp_skip ?_
    refine hK2 _ _ ?_; clear hK2
    refine wp_seq_k (fun K8 hK7 => ?_)
    refine wp_seq_k (fun K hK => ?_); refine wp_region_lit ?_
    refine o_assign HE rfl rfl ?_; clear HE; intro a HE
    refine hK _ _ ?_; clear hK K
    refine wp_block ?_
    refine loop (fun (i : Nat) a' w' => St w0 G [] G w' [] ∧ Env a' 26 [] [(0, .slice Aa xa.length ca), (1, .slice Ab xb.length cb), (4, .bool false), (5, .int .i64 (i : Int))] ∧ (i ≤ xa.length ∧ xa.take i = xb.take i)) (fun (i : Nat) => xa.length - i) 0 ⟨HS, HE.cut ⟨rfl, rfl, rfl, rfl, trivial⟩, ⟨Nat.zero_le _, rfl⟩⟩ ?_
    clear HE HS; intro i a w ⟨HS, HE, ⟨hi, ht⟩⟩
    refine wp_seq_k (fun K12 hK11 => ?_)
    refine wp_seq_k (fun K hK => ?_); refine wp_region_lit ?_
    refine o_move HE rfl rfl ?_; clear HE; intro a HE
    refine o_move HE rfl rfl ?_; clear HE; intro a HE
    refine o_lenL HE rfl rfl Tryd.underlying37 ?_; clear HE; intro a HE
    refine o_lss HE rfl rfl rfl ?_; clear HE; intro a HE
    refine hK _ _ ?_; clear hK K
    refine cond HE rfl (fun h14 => ?_) (fun h14 => ?_)
    · have h14r := h14; try simp only [Bool.not_eq_true', Bool.not_eq_false', Bool.and_eq_true, Bool.or_eq_true, Bool.or_eq_false_iff, Bool.and_eq_false_iff, decide_eq_true_eq, decide_eq_false_iff_not, beq_iff_eq, beq_eq_false_iff_ne, ne_eq] at h14
      refine wp_skip ?_
      refine hK11 _ _ ?_; clear hK11
      refine wp_seq_k (fun K16 hK15 => ?_)
      refine wp_block ?_
      refine wp_seq_k (fun K18 hK17 => ?_)
      have hi19 : (i : Int).toNat < xa.length := by omega
      obtain ⟨eb19, eo19, hA19, el19⟩ := Rd.at hRxa (List.getElem?_eq_getElem hi19); cases hA19
      obtain ⟨x19, ex19⟩ : ∃ x, xa[(i : Int).toNat] = x := ⟨_, rfl⟩; rw [ex19] at el19
      have el19 := kVal_open el19
      have hi20 : (i : Int).toNat < xb.length := by omega
      obtain ⟨eb20, eo20, hA20, el20⟩ := Rd.at hRxb (List.getElem?_eq_getElem hi20); cases hA20
      obtain ⟨x20, ex20⟩ : ∃ x, xb[(i : Int).toNat] = x := ⟨_, rfl⟩; rw [ex20] at el20
      have el20 := kVal_open el20
      replace HE := HE.cut (L' := [(0, .slice (some ⟨eb19, eo19, none⟩) xa.length ca), (1, .slice (some ⟨eb20, eo20, none⟩) xb.length cb), (4, .bool false), (5, .int .i64 (i : Int)), (11, .int .i64 (i : Int)), (12, .slice (some ⟨eb19, eo19, none⟩) xa.length ca), (13, .int .i64 (xa.length : Int)), (14, .bool (decide ((i : Int) < (xa.length : Int))))]) ⟨rfl, rfl, rfl, rfl, rfl, rfl, rfl, rfl, trivial⟩
      refine drawnP [fun v => v = .slice (some ⟨eb19, eo19, none⟩) xa.length ca, fun v => v = .int .i64 (i : Int), fun v => v = .pointer (some ⟨eb19, eo19 + (i : Int).toNat * 3, none⟩), fun v => v = .agg #[.int .i64 x19.k, .int .i64 x19.n, str x19.s], fun v => v = .slice (some ⟨eb20, eo20, none⟩) xb.length cb, fun v => v = .int .i64 (i : Int), fun v => v = .pointer (some ⟨eb20, eo20 + (i : Int).toNat * 3, none⟩), fun v => v = .agg #[.int .i64 x20.k, .int .i64 x20.n, str x20.s], fun v => v = .bool (!(decide (x19.k = x20.k) && (decide (x19.n = x20.n) && (x19.s == x20.s && true))))] T.mix rfl HE HS rfl ⟨?_, ?_, ?_, ?_, ?_, ?_, ?_, ?_, ?_, trivial⟩ ?_
      · intro a w G1 hl HS HE hp
        refine o_move HE rfl rfl ?_; clear HE; intro a HE
        exact ⟨_, _, HS, rfl, HE.get _ _ rfl, HE.defers, rfl⟩
      · intro a w G1 hl HS HE hp
        refine o_move HE rfl rfl ?_; clear HE; intro a HE
        exact ⟨_, _, HS, rfl, HE.get _ _ rfl, HE.defers, rfl⟩
      · intro a w G1 hl HS HE hp
        obtain ⟨_, e0, rfl⟩ := hp 0 17 _ rfl rfl rfl; replace HE := HE.add e0
        obtain ⟨_, e1, rfl⟩ := hp 1 18 _ rfl rfl rfl; replace HE := HE.add e1
        refine o_ixL HE rfl rfl rfl T.l37 ⟨by omega, by omega⟩ ?_; clear HE; intro a HE
        exact ⟨_, _, HS, rfl, HE.get _ _ rfl, HE.defers, rfl⟩
      · intro a w G1 hl HS HE hp
        obtain ⟨_, e2, rfl⟩ := hp 2 19 _ rfl rfl rfl; replace HE := HE.add e2
        refine o_ldIA HE rfl HS rfl (el19.le hl) T.a25 ?_; clear HE; intro a HE
        exact ⟨_, _, HS, rfl, HE.get _ _ rfl, HE.defers, rfl⟩
      · intro a w G1 hl HS HE hp
        refine o_move HE rfl rfl ?_; clear HE; intro a HE
        exact ⟨_, _, HS, rfl, HE.get _ _ rfl, HE.defers, rfl⟩
      · intro a w G1 hl HS HE hp
        refine o_move HE rfl rfl ?_; clear HE; intro a HE
        exact ⟨_, _, HS, rfl, HE.get _ _ rfl, HE.defers, rfl⟩
      · intro a w G1 hl HS HE hp
        obtain ⟨_, e4, rfl⟩ := hp 4 21 _ rfl rfl rfl; replace HE := HE.add e4
        obtain ⟨_, e5, rfl⟩ := hp 5 22 _ rfl rfl rfl; replace HE := HE.add e5
        refine o_ixL HE rfl rfl rfl T.l37 ⟨by omega, by omega⟩ ?_; clear HE; intro a HE
        exact ⟨_, _, HS, rfl, HE.get _ _ rfl, HE.defers, rfl⟩
      · intro a w G1 hl HS HE hp
        obtain ⟨_, e6, rfl⟩ := hp 6 23 _ rfl rfl rfl; replace HE := HE.add e6
        refine o_ldIA HE rfl HS rfl (el20.le hl) T.a25 ?_; clear HE; intro a HE
        exact ⟨_, _, HS, rfl, HE.get _ _ rfl, HE.defers, rfl⟩
      · intro a w G1 hl HS HE hp
        obtain ⟨_, e3, rfl⟩ := hp 3 20 _ rfl rfl rfl; replace HE := HE.add e3
        obtain ⟨_, e7, rfl⟩ := hp 7 24 _ rfl rfl rfl; replace HE := HE.add e7
        refine o_neA (b := decide (x19.k = x20.k) && (decide (x19.n = x20.n) && (x19.s == x20.s && true))) HE rfl rfl rfl T.q25 rfl rfl ?_; clear HE; intro a HE
        exact ⟨_, _, HS, rfl, HE.get _ _ rfl, HE.defers, rfl⟩
      clear HE HS; intro a w HS HE hp
      obtain ⟨_, e8, rfl⟩ := hp 8 25 _ rfl rfl; replace HE := HE.add e8
      clear hp
      refine hK17 _ _ ?_; clear hK17
      refine cond HE rfl (fun h21 => ?_) (fun h21 => ?_)
      · have h21r := h21; try simp only [Bool.not_eq_true', Bool.not_eq_false', Bool.and_eq_true, Bool.or_eq_true, Bool.or_eq_false_iff, Bool.and_eq_false_iff, decide_eq_true_eq, decide_eq_false_iff_not, beq_iff_eq, beq_eq_false_iff_ne, ne_eq] at h21
        refine wp_seq_k (fun K hK => ?_); refine wp_region_lit ?_
        refine o_assign HE rfl rfl ?_; clear HE; intro a HE
        refine hK _ _ ?_; clear hK K
        refine wp_ret ?_
        show Q .ret _ _
        refine ret hQ HE rfl (HE.res rfl .nil) ⟨_, _, HS.stop (List.nil_sublist _), rfl, ?_⟩
        show _ = _
        simp only [packed, Value.bool.injEq]
        have hq := h21r
        rw [Bool.not_eq_true'] at hq
        exact (decide_eq_false fun e => by subst e; exact val_ne hq (ex19.symm.trans ex20)).symm
      · have h21r := h21; try simp only [Bool.not_eq_true', Bool.not_eq_false', Bool.and_eq_true, Bool.or_eq_true, Bool.or_eq_false_iff, Bool.and_eq_false_iff, decide_eq_true_eq, decide_eq_false_iff_not, beq_iff_eq, beq_eq_false_iff_ne, ne_eq] at h21
        refine wp_skip ?_
        refine hK15 _ _ ?_; clear hK15
        refine wp_region_lit ?_
        refine o_move HE rfl rfl ?_; clear HE; intro a HE
        refine o_add HE rfl rfl rfl (by omega) ?_; clear HE; intro a HE
        refine o_assign HE rfl rfl ?_; clear HE; intro a HE
        have hlt : i < xa.length := by omega
        have hq := h21r
        rw [Bool.not_eq_false'] at hq
        have ht2 : xa.take (i + 1) = xb.take (i + 1) := take_snoc_eq7 ht hlt (by omega) (ex19.trans ((val_eq hq).trans ex20.symm))
        exact ⟨i + 1, ⟨HS, HE.cut ⟨rfl, rfl, rfl, rfl, trivial⟩, ⟨by omega, ht2⟩⟩, by omega⟩
    · have h14r := h14; try simp only [Bool.not_eq_true', Bool.not_eq_false', Bool.and_eq_true, Bool.or_eq_true, Bool.or_eq_false_iff, Bool.and_eq_false_iff, decide_eq_true_eq, decide_eq_false_iff_not, beq_iff_eq, beq_eq_false_iff_ne, ne_eq] at h14
      refine wp_exit ?_
      refine hK7 _ _ ?_; clear hK7
      refine wp_seq_k (fun K hK => ?_); refine wp_region_lit ?_
      refine o_assign HE rfl rfl ?_; clear HE; intro a HE
      refine hK _ _ ?_; clear hK K
      refine wp_ret ?_
      show Q .ret _ _
      refine ret hQ HE rfl (HE.res rfl .nil) ⟨_, _, HS.stop (List.nil_sublist _), rfl, ?_⟩
      show _ = _
      simp only [packed, Value.bool.injEq]
      exact (decide_eq_true (by rwa [List.take_of_length_le (by omega), List.take_of_length_le (by omega)] at ht)).symm

/-! `incognito/incognitolaw07.ValueSorts` -/
set_option maxRecDepth 100000 in
set_option maxHeartbeats 4000000 in
theorem law_ValueSorts (l : List Val) (A : Option Addr) (c : Nat) (w0 : World) (G : Heap) (hG : Sub G w0) (hg0 : CellsAt G 0 0 [.int .i64 3, .int .i64 1, str []]) (hg1 : CellsAt G 1 0 [.int .i64 3, .int .i64 0, str []]) (hR : Rd kVal G A l) (hls : l.length ≤ 9223372036854775807):
    Calls Tryd.prog 7 #[.slice A l.length c] w0 (Ret w0 G (fun v _ => v = .bool true)) := by
  refine enter Tryd.func7 rfl Tryd.ntmps7 rfl ?_
  intro Q hQ a HE
  have HS := St.start0 hG
  refine wp_seq_k (fun K hK => ?_); refine wp_region_lit ?_
  refine o_assign HE rfl rfl ?_; clear HE; intro a HE
  refine hK _ _ ?_; clear hK K
  refine wp_seq_k (fun K3 hK2 => ?_)
  refine wp_seq_k (fun K hK => ?_); refine wp_region_lit ?_
  refine o_callP HE rfl HS rfl rfl T.g10 (c_wakes7 _ _ HS.sub hg0 hg1) ?_
  clear HE HS; rintro _ w a HS rfl HE
  refine o_not HE rfl rfl ?_; clear HE; intro a HE
  refine hK _ _ ?_; clear hK K
  refine cond HE rfl (fun h5 => ?_) (fun h5 => ?_)
  · have h5r := h5; try simp only [Bool.not_eq_true', Bool.not_eq_false', Bool.and_eq_true, Bool.or_eq_true, Bool.or_eq_false_iff, Bool.and_eq_false_iff, decide_eq_true_eq, decide_eq_false_iff_not, beq_iff_eq, beq_eq_false_iff_ne, ne_eq] at h5
    refine wp_seq_k (fun K hK => ?_); refine wp_region_lit ?_
    refine o_assign HE rfl rfl ?_; clear HE; intro a HE
    refine hK _ _ ?_; clear hK K
    refine wp_ret ?_
    show Q .ret _ _
    refine ret hQ HE rfl (HE.res rfl .nil) ⟨_, _, HS.stop (List.nil_sublist _), rfl, ?_⟩
    exact absurd h5r (by decide)
  · have h5r := h5; try simp only [Bool.not_eq_true', Bool.not_eq_false', Bool.and_eq_true, Bool.or_eq_true, Bool.or_eq_false_iff, Bool.and_eq_false_iff, decide_eq_true_eq, decide_eq_false_iff_not, beq_iff_eq, beq_eq_false_iff_ne, ne_eq] at h5
    refine wp_skip ?_
    refine hK2 _ _ ?_; clear hK2
    refine wp_seq_k (fun K8 hK7 => ?_)
    refine wp_seq_k (fun K hK => ?_); refine wp_region_lit ?_
    refine o_move HE rfl rfl ?_; clear HE; intro a HE
    refine o_call HE rfl HS rfl rfl T.g13 (c_great2 l _ _ _ _ HS.sub hR (by omega)) ?_
    clear HE HS; rintro _ G12 w a HS hle11 ⟨gb9, rfl, hgb10⟩ HE
    replace hg0 := hg0.le hle11
    replace hg1 := hg1.le hle11
    replace hR := hR.le hle11
    refine hK _ _ ?_; clear hK K
    refine cond HE rfl (fun h14 => ?_) (fun h14 => ?_)
    · have h14r := h14; try simp only [Bool.not_eq_true', Bool.not_eq_false', Bool.and_eq_true, Bool.or_eq_true, Bool.or_eq_false_iff, Bool.and_eq_false_iff, decide_eq_true_eq, decide_eq_false_iff_not, beq_iff_eq, beq_eq_false_iff_ne, ne_eq] at h14
      refine wp_seq_k (fun K hK => ?_); refine wp_region_lit ?_
      refine o_assign HE rfl rfl ?_; clear HE; intro a HE
      refine hK _ _ ?_; clear hK K
      refine wp_ret ?_
      show Q .ret _ _
      refine ret hQ HE rfl (HE.res rfl .nil) ⟨_, _, HS.stop (List.nil_sublist _), rfl, ?_⟩
      show _ = _
      rfl
    · have h14r := h14; try simp only [Bool.not_eq_true', Bool.not_eq_false', Bool.and_eq_true, Bool.or_eq_true, Bool.or_eq_false_iff, Bool.and_eq_false_iff, decide_eq_true_eq, decide_eq_false_iff_not, beq_iff_eq, beq_eq_false_iff_ne, ne_eq] at h14
      refine wp_skip ?_
      refine hK7 _ _ ?_; clear hK7
      refine wp_seq_k (fun K hK => ?_); refine wp_region_lit ?_
      have hl40 := hgb10 (by simpa using h14)
      refine o_buildNil (K := kVal) HE rfl HS T.p37 ?_; clear HE HS; intro oA16 oc16 oC16 w a HS oH16 HE
      refine o_move HE rfl rfl ?_; clear HE; intro a HE
      refine o_append (K := kVal) HE rfl HS .here oH16 rfl rfl T.p37 hR kVal_one (by simp; omega) (by simp; omega) ?_
      clear HE HS; intro oA17 oc17 oC17 w a HS oH17 HE
      refine o_assign HE rfl rfl ?_; clear HE; intro a HE
      refine hK _ _ ?_; clear hK K
      refine wp_seq_k (fun K hK => ?_); refine wp_region_lit ?_
      refine o_move HE rfl rfl ?_; clear HE; intro a HE
      have hcphR20 := oH17.cap
      obtain ⟨G19, hle21, HS', hR20⟩ := X.Own.still HS .here oH17; clear HS; have HS := HS'; clear HS'
      replace hg0 := hg0.le hle21
      replace hg1 := hg1.le hle21
      replace hR := hR.le hle21
      refine o_call HE rfl HS rfl rfl T.g22 (c_sort7 (([] : List Val) ++ l) _ _ _ _ HS.sub hR20 (by first | omega | (simp; omega))) ?_
      clear HE HS; rintro _ G22 w a HS hle22 ⟨vA22, vc22, rfl, hcp22, hR22⟩ HE
      replace hg0 := hg0.le hle22
      replace hg1 := hg1.le hle22
      replace hR := hR.le hle22
      replace hR20 := hR20.le hle22
      refine o_assign HE rfl rfl ?_; clear HE; intro a HE
      refine hK _ _ ?_; clear hK K
      refine wp_seq_k (fun K hK => ?_); refine wp_region_lit ?_
      refine o_move HE rfl rfl ?_; clear HE; intro a HE
      refine o_move HE rfl rfl ?_; clear HE; intro a HE
      refine o_call HE rfl HS rfl rfl T.g24 (c_Sort7 l _ _ _ _ HS.sub hR (by first | omega | (simp; omega))) ?_
      clear HE HS; rintro _ G24 w a HS hle24 ⟨vA24, vc24, rfl, hcp24, hR24⟩ HE
      replace hg0 := hg0.le hle24
      replace hg1 := hg1.le hle24
      replace hR := hR.le hle24
      replace hR20 := hR20.le hle24
      replace hR22 := hR22.le hle24
      refine o_callP HE rfl HS rfl rfl T.g23 (c_Same7 (TS.sortV (([] : List Val) ++ l)) _ _ (TS.sortV l) _ _ _ _ HS.sub hR22 (by first | omega | (rw [TS.sortV_len]; first | omega | (simp; omega)) | (simp; omega)) hR24 (by first | omega | (rw [TS.sortV_len]; first | omega | (simp; omega)) | (simp; omega))) ?_
      clear HE HS; rintro _ w a HS rfl HE
      refine o_move HE rfl rfl ?_; clear HE; intro a HE
      obtain ⟨M0, hM0, HS⟩ : ∃ M0, M0 = _ ∧ St w0 G [] G24 _ M0 := ⟨_, rfl, HS⟩
      refine cutL 4 (fun a' w' => St w0 G [] G24 w' M0 ∧ Env a' 23 [] [(22, .bool ((decide (TS.sortV (([] : List Val) ++ l) = TS.sortV l)) && (decide (([] : List Val) ++ l = l)))), (0, .slice A l.length c), (2, .bool false), (3, .slice oA17 ((([] : List Val) ++ l).length) oc17), (5, .bool true), (6, .bool (!true)), (7, .slice A l.length c), (8, .bool gb9), (10, .slice A l.length c), (11, .slice oA17 ((([] : List Val) ++ l).length) oc17), (12, .slice oA17 ((([] : List Val) ++ l).length) oc17), (13, .slice vA22 ((TS.sortV (([] : List Val) ++ l)).length) vc22)]) ?_ ?_
      · refine (Bool.eq_false_or_eq_true (decide (TS.sortV (([] : List Val) ++ l) = TS.sortV l))).elim (fun hb25 => ?_) (fun hb25 => ?_)
        · subst hM0
          have hk26 := hb25; try simp only [Bool.not_eq_true', Bool.not_eq_false', Bool.and_eq_true, Bool.or_eq_true, Bool.or_eq_false_iff, decide_eq_true_eq, decide_eq_false_iff_not, beq_iff_eq, beq_eq_false_iff_ne, ne_eq] at hk26
          refine op_on HE rfl rfl hb25 ?_
          refine o_move HE rfl rfl ?_; clear HE; intro a HE
          refine op_on HE rfl rfl hb25 ?_
          refine o_move HE rfl rfl ?_; clear HE; intro a HE
          refine op_on HE rfl rfl hb25 ?_
          refine o_callP HE rfl HS rfl rfl T.g23 (c_Same7 (([] : List Val) ++ l) _ _ l _ _ _ _ HS.sub hR20 (by first | omega | (rw [TS.sortV_len]; first | omega | (simp; omega)) | (simp; omega)) hR (by first | omega | (rw [TS.sortV_len]; first | omega | (simp; omega)) | (simp; omega))) ?_
          clear HE HS; rintro _ w a HS rfl HE
          refine o_pick_t HE rfl rfl hb25 rfl ?_; clear HE; intro a HE
          exact ⟨HS, HE.cut ⟨by rw [hb25]; rfl, rfl, rfl, rfl, rfl, rfl, rfl, rfl, rfl, rfl, rfl, rfl, trivial⟩⟩
        · subst hM0
          have hk27 := hb25; try simp only [Bool.not_eq_true', Bool.not_eq_false', Bool.and_eq_true, Bool.or_eq_true, Bool.or_eq_false_iff, decide_eq_true_eq, decide_eq_false_iff_not, beq_iff_eq, beq_eq_false_iff_ne, ne_eq] at hk27
          refine g_off HE rfl rfl rfl hb25 ?_; clear HE; intro a HE
          refine g_off HE rfl rfl rfl hb25 ?_; clear HE; intro a HE
          refine g_off HE rfl rfl rfl hb25 ?_; clear HE; intro a HE
          refine o_pick_f HE rfl rfl hb25 rfl ?_; clear HE; intro a HE
          exact ⟨HS, HE.cut ⟨by rw [hb25]; rfl, rfl, rfl, rfl, rfl, rfl, rfl, rfl, rfl, rfl, rfl, rfl, trivial⟩⟩
      clear HE HS; rintro a w ⟨HS, HE⟩; subst hM0
      refine o_assign HE rfl rfl ?_; clear HE; intro a HE
      refine hK _ _ ?_; clear hK K
      refine wp_ret ?_
      show Q .ret _ _
      refine ret hQ HE rfl (HE.res rfl .nil) ⟨_, _, HS.stop (List.nil_sublist _), rfl, ?_⟩
      show _ = _
      simp only [packed, Value.bool.injEq]
      simp
end Go.Proofs.YtjmffmfcddnjbaaDoor.T7
