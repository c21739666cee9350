/- Values, numbers, lines: walked. -/
import Derived.Test.YtiinipcmghhacaaGreatDoorX30
import Derived.Test.YtiinipcmghhacaaGreatDoorZL10
import Derived.Test.YtiinipcmghhacaaGreatDoorN1
import Derived.Test.YtiinipcmghhacaaGreatDoorN2
import Derived.Test.YtiinipcmghhacaaGreatDoorN4
import Derived.Test.YtiinipcmghhacaaGreatDoorProg
set_option linter.unusedVariables false
set_option linter.unusedSimpArgs false
namespace Go.Proofs.YtiinipcmghhacaaGreatDoor.T10
open Go Go.Proofs.YtiinipcmghhacaaGreatDoor.X
instance : UN Tryz.prog 9 .string := ⟨Tryz.underlying9⟩
instance : LZ Tryz.prog 23 [(0, .int .i64 0), (1, .int .i64 0), (2, str [])] := ⟨⟨.agg #[.int .i64 0, .int .i64 0, str []], by kernel_rfl, ⟨rfl, rfl, rfl, trivial⟩⟩⟩
theorem T.a23 : aggSz Tryz.prog 23 = some 3 := by kernel_rfl
instance : AG Tryz.prog 23 3 := ⟨T.a23⟩
theorem T.b58_9 : b2s Tryz.prog 58 9 = true := by kernel_rfl
theorem T.c122_2 : convOk Tryz.prog 122 2 .i64 = true := by kernel_rfl
theorem T.c2_122 : convOk Tryz.prog 2 122 .u64 = true := by kernel_rfl
theorem T.c2_5 : convOk Tryz.prog 2 5 .u8 = true := by kernel_rfl
theorem T.c5_122 : convOk Tryz.prog 5 122 .u64 = true := by kernel_rfl
theorem T.f23_0 : fieldOff Tryz.prog 23 0 = some 0 := by kernel_rfl
instance : FO Tryz.prog 23 0 0 := ⟨T.f23_0⟩
theorem T.f23_1 : fieldOff Tryz.prog 23 1 = some 1 := by kernel_rfl
instance : FO Tryz.prog 23 1 1 := ⟨T.f23_1⟩
theorem T.f23_2 : fieldOff Tryz.prog 23 2 = some 2 := by kernel_rfl
instance : FO Tryz.prog 23 2 2 := ⟨T.f23_2⟩
theorem T.g109 : goFn Tryz.prog 109 = true := by kernel_rfl
theorem T.g22 : goFn Tryz.prog 22 = true := by kernel_rfl
theorem T.g25 : goFn Tryz.prog 25 = true := by kernel_rfl
theorem T.g26 : goFn Tryz.prog 26 = true := by kernel_rfl
theorem T.g31 : goFn Tryz.prog 31 = true := by kernel_rfl
theorem T.g43 : goFn Tryz.prog 43 = true := by kernel_rfl
theorem T.g46 : goFn Tryz.prog 46 = true := by kernel_rfl
theorem T.g49 : goFn Tryz.prog 49 = true := by kernel_rfl
theorem T.g50 : goFn Tryz.prog 50 = true := by kernel_rfl
theorem T.g51 : goFn Tryz.prog 51 = true := by kernel_rfl
theorem T.g55 : goFn Tryz.prog 55 = true := by kernel_rfl
theorem T.g56 : goFn Tryz.prog 56 = true := by kernel_rfl
theorem T.g57 : goFn Tryz.prog 57 = true := by kernel_rfl
theorem T.g58 : goFn Tryz.prog 58 = true := by kernel_rfl
theorem T.g69 : goFn Tryz.prog 69 = true := by kernel_rfl
theorem T.g78 : goFn Tryz.prog 78 = true := by kernel_rfl
theorem T.g79 : goFn Tryz.prog 79 = true := by kernel_rfl
theorem T.g80 : goFn Tryz.prog 80 = true := by kernel_rfl
theorem T.g93 : goFn Tryz.prog 93 = true := by kernel_rfl
theorem T.g94 : goFn Tryz.prog 94 = true := by kernel_rfl
theorem T.i20 : Tryz.prog.underlying 20 = some (.interface (Tryz.prog.methodsAt 20)) := by kernel_rfl
theorem T.l58 : slOf Tryz.prog 58 = some (5, 1) := by kernel_rfl
theorem T.mix : Tryz.prog.follows .mixedOrders = true := by kernel_rfl
theorem T.n34 : notIf Tryz.prog 34 = true := by kernel_rfl
theorem T.q23 : flatT Tryz.prog 23 = some [.int .i64, .int .i64, .str] := by kernel_rfl
theorem T.s2 : scal Tryz.prog 2 = true := by kernel_rfl
instance : SC Tryz.prog 2 := ⟨T.s2⟩
theorem T.s3 : scal Tryz.prog 3 = true := by kernel_rfl
instance : SC Tryz.prog 3 := ⟨T.s3⟩
theorem T.s34 : scal Tryz.prog 34 = true := by kernel_rfl
instance : SC Tryz.prog 34 := ⟨T.s34⟩
theorem T.s9 : scal Tryz.prog 9 = true := by kernel_rfl
instance : SC Tryz.prog 9 := ⟨T.s9⟩
theorem T.z2 : zeroOf Tryz.prog 2 = some (.int .i64 0) := by kernel_rfl
theorem T.z34 : zeroOf Tryz.prog 34 = some (.int .i64 0) := by kernel_rfl

def sizeS (s : Bs) (most : Int) : Except Int Int := if digitsB s = true then (if (dv s : Int) ≤ most then .ok (dv s) else .error 3) else .error 2
def countS (s : Bs) (most : Int) : Except Int Int := match sizeS s 9223372036854775807 with
  | .error e => .error e
  | .ok n => if most < 0 ∨ most < n then .error 3 else .ok n
def parseS (s : Bs) : Except Int Int :=
  if s = [] ∨ bt s 0 ≠ 45 then sizeS s 9223372036854775807
  else match sizeS (s.drop 1) 9223372036854775808 with
    | .error e => .error e
    | .ok n => if n = 0 then .error 2 else .ok (-n)
theorem dig_of {s : Bs} {i : Nat} (hi : i < s.length) (h1 : 48 ≤ bt s i) (h2 : bt s i ≤ 57) : digB s[i] = true := by
  rw [bt_nat hi] at h1 h2
  simp only [digB, Bool.and_eq_true, decide_eq_true_eq]
  omega
theorem dig_at {s : Bs} (h : s.all digB = true) {i : Nat} (hi : i < s.length) : 48 ≤ bt s i ∧ bt s i ≤ 57 := by
  have := List.all_eq_true.1 h _ (List.getElem_mem hi)
  simp only [digB, Bool.and_eq_true, decide_eq_true_eq] at this
  rw [bt_nat hi]
  omega
theorem digits_all {s : Bs} (h : digitsB s = true) : s.all digB = true := by simp only [digitsB, Bool.and_eq_true] at h; exact h.1
theorem digits_pos {s : Bs} (h : digitsB s = true) : 0 < s.length := by simp only [digitsB, Bool.and_eq_true, decide_eq_true_eq] at h; exact h.2.1
theorem digits_no {s : Bs} {i : Nat} (hi : i < s.length) (h : bt s i < 48 ∨ 57 < bt s i) : digitsB s = false := by
  cases hd : digitsB s with
  | false => rfl
  | true => have := dig_at (digits_all hd) hi; omega
theorem digits_eq {s : Bs} (h : s.all digB = true) : (decide (0 < (s.length : Int)) && (decide ((s.length : Int) = 1) || !decide (bt s 0 = 48))) = digitsB s := by
  unfold digitsB
  rw [h, Bool.true_and]
  have e1 : decide (0 < (s.length : Int)) = decide (0 < s.length) := decide_eq_decide.2 (by omega)
  have e2 : decide ((s.length : Int) = 1) = decide (s.length = 1) := decide_eq_decide.2 (by omega)
  rw [e1, e2]
theorem digits_of {s : Bs} (h : s.all digB = true) (h1 : ¬ s = []) (h2 : ¬ bt s 0 = 48 ∨ ¬ 1 < (s.length : Int)) : digitsB s = true := by
  rw [← digits_eq h]
  have h0 : 0 < s.length := List.length_pos_iff.2 h1
  simp only [Bool.and_eq_true, Bool.or_eq_true, decide_eq_true_eq, Bool.not_eq_true', decide_eq_false_iff_not]
  refine ⟨by omega, ?_⟩
  rcases h2 with h2 | h2
  · exact .inr h2
  · exact .inl (by omega)
theorem size_no {s : Bs} {most : Int} (h : digitsB s = false) : sizeS s most = .error 2 := by simp [sizeS, h]
theorem size_e2a {s : Bs} {most : Int} (h : s = [] ∨ bt s 0 = 48 ∧ 1 < (s.length : Int)) : sizeS s most = .error 2 := by
  refine size_no ?_
  cases hd : digitsB s with
  | false => rfl
  | true =>
    have h0 := digits_pos hd
    have h1 := digits_all hd
    rw [← digits_eq h1] at hd
    simp only [Bool.and_eq_true, Bool.or_eq_true, decide_eq_true_eq, Bool.not_eq_true', decide_eq_false_iff_not] at hd
    rcases h with rfl | h
    · simp at h0
    · omega
theorem size_e2b {s : Bs} {most : Int} {i : Nat} (hi : i < s.length) (h : bt s i < 48 ∨ 57 < bt s i) : sizeS s most = .error 2 := size_no (digits_no hi h)
theorem dv_step {s : Bs} (h : s.all digB = true) {j : Nat} (hj : j < s.length) : ((dv (s.take (j + 1)) : Nat) : Int) = (dv (s.take j) : Int) * 10 + (bt s j - 48) := by
  have := dig_at h hj
  rw [bt_nat hj] at this ⊢
  rw [dv_take hj]
  omega
theorem size_e3 {s : Bs} {most : Int} (hd : digitsB s = true) {j : Nat} (hj : j < s.length) (h : most < (dv (s.take j) : Int) * 10 + (bt s j - 48)) : sizeS s most = .error 3 := by
  rw [← dv_step (digits_all hd) hj] at h
  have := dv_mono s (j + 1)
  unfold sizeS
  rw [if_pos hd, if_neg (by omega)]
theorem size_ok {s : Bs} {most : Int} (hd : digitsB s = true) (h : (dv s : Int) ≤ most) : sizeS s most = .ok (dv s : Int) := by
  unfold sizeS
  rw [if_pos hd, if_pos h]
theorem size_bound {s : Bs} {most n : Int} (h : sizeS s most = .ok n) : 0 ≤ n ∧ n ≤ most := by
  unfold sizeS at h
  split at h
  · split at h
    · cases h; omega
    · cases h
  · cases h
def maxP : Bs := [57, 50, 50, 51, 51, 55, 50, 48, 51, 54, 56, 53, 52, 55, 55, 53, 56, 48, 55]
def maxN : Bs := [57, 50, 50, 51, 51, 55, 50, 48, 51, 54, 56, 53, 52, 55, 55, 53, 56, 48, 56]
theorem least_p {s : Bs} (h : digitsB s = true) : leastB s maxP = decide ((dv s : Int) ≤ 9223372036854775807) := by
  rw [least_iff h (by decide), show dv maxP = 9223372036854775807 by decide]
  exact decide_eq_decide.2 (by omega)
theorem least_n {s : Bs} (h : digitsB s = true) : leastB s maxN = decide ((dv s : Int) ≤ 9223372036854775808) := by
  rw [least_iff h (by decide), show dv maxN = 9223372036854775808 by decide]
  exact decide_eq_decide.2 (by omega)
theorem dv_zero {s : Bs} (hd : digitsB s = true) (hn : ¬ s = [48]) : ¬ (dv s : Int) = 0 := by
  intro e
  have h1 := digits_all hd
  have h0 := digits_pos hd
  rcases Nat.lt_or_ge 1 s.length with h | h
  · have := dv_ge hd h
    have := Nat.pow_pos (a := 10) (n := s.length - 1) (by decide)
    omega
  · match s, h0, h with
    | [b], _, _ =>
      have h2 := dig_at h1 (i := 0) (by simp)
      have h3 : bt [b] ((0 : Nat) : Int) = (b.toNat : Int) := rfl
      rw [h3] at h2
      have h4 : dv [b] = 0 * 10 + (b.toNat - 48) := rfl
      have h5 : b.toNat = 48 := by omega
      exact hn (by rw [show b = 48 from UInt8.toNat_inj.1 h5])
theorem size_big {s : Bs} {most : Int} (hd : digitsB s = true) (h : ¬ (dv s : Int) ≤ most) : sizeS s most = .error 3 := by
  unfold sizeS
  rw [if_pos hd, if_neg h]
theorem parse_neg {s : Bs} (h0 : 0 < (s.length : Int) ∧ bt s 0 = 45) : parseS s = match sizeS (s.drop 1) 9223372036854775808 with
    | .error e => .error e
    | .ok n => if n = 0 then .error 2 else .ok (-n) := by
  unfold parseS
  rw [if_neg]
  rintro (h | h)
  · subst h; simp at h0
  · exact h h0.2
theorem parse_pos {s : Bs} (h0 : ¬ 0 < (s.length : Int) ∨ ¬ bt s 0 = 45) : parseS s = sizeS s 9223372036854775807 := by
  unfold parseS
  rw [if_pos]
  rcases h0 with h | h
  · left; exact List.eq_nil_of_length_eq_zero (by omega)
  · exact .inr h
theorem parse_n2 {s : Bs} (h0 : 0 < (s.length : Int) ∧ bt s 0 = 45) (h : digitsB (s.drop 1) = false ∨ s.drop 1 = [48]) : parseS s = .error 2 := by
  rw [parse_neg h0]
  rcases h with h | h
  · rw [size_no h]
  · rw [h]; rfl
theorem parse_n3 {s : Bs} (h0 : 0 < (s.length : Int) ∧ bt s 0 = 45) (hd : digitsB (s.drop 1) = true) (hl : leastB (s.drop 1) maxN = false) : parseS s = .error 3 := by
  rw [parse_neg h0]
  rw [least_n hd, decide_eq_false_iff_not] at hl
  rw [size_big hd hl]
theorem parse_nok {s : Bs} (h0 : 0 < (s.length : Int) ∧ bt s 0 = 45) (hd : digitsB (s.drop 1) = true) (hn : ¬ s.drop 1 = [48]) (hb : (dv (s.drop 1) : Int) ≤ 9223372036854775808) : parseS s = .ok (-(dv (s.drop 1) : Int)) := by
  rw [parse_neg h0, size_ok hd hb]
  exact if_neg (dv_zero hd hn)
theorem parse_p3 {s : Bs} (h0 : ¬ 0 < (s.length : Int) ∨ ¬ bt s 0 = 45) (hd : digitsB s = true) (hl : leastB s maxP = false) : parseS s = .error 3 := by
  rw [least_p hd, decide_eq_false_iff_not] at hl
  rw [parse_pos h0, size_big hd hl]
theorem count_digits {s : Bs} {most : Int} (hd : digitsB s = true) : countS s most = if ¬ erv (parseS s) = 0 ∨ most < okv (parseS s) then .error 3 else .ok (okv (parseS s)) := by
  have h1 := dig_at (digits_all hd) (i := 0) (digits_pos hd)
  have e : parseS s = sizeS s 9223372036854775807 := parse_pos (.inr (by
    have : bt s ((0 : Nat) : Int) = bt s 0 := rfl
    omega))
  unfold countS
  rw [e]
  by_cases hb : (dv s : Int) ≤ 9223372036854775807
  · rw [size_ok hd hb]
    show (if most < 0 ∨ most < (dv s : Int) then Except.error 3 else Except.ok (dv s : Int)) = if ¬ (0 : Int) = 0 ∨ most < (dv s : Int) then Except.error 3 else Except.ok (dv s : Int)
    by_cases h : most < (dv s : Int)
    · rw [if_pos (.inr h), if_pos (.inr h)]
    · rw [if_neg (by omega), if_neg (by omega)]
  · rw [size_big hd hb]
    show Except.error 3 = if ¬ (3 : Int) = 0 ∨ most < 0 then Except.error 3 else Except.ok 0
    rw [if_pos (.inl (by decide))]
theorem drop_len {s : Bs} (h : 0 < (s.length : Int)) : (s.drop 1).length + 1 = s.length := by simp; omega

def lowB (c : Int) : Bool := decide (97 ≤ c) && decide (c ≤ 122)
def letterB (c : Int) (first : Bool) : Bool := lowB c || (!first && (decide (c = 95) || (decide (48 ≤ c) && decide (c ≤ 57))))
theorem letter_eq (c : Int) : (((decide (97 ≤ c) && decide (c ≤ 122)) || (decide (48 ≤ c) && decide (c ≤ 57))) || decide (c = 95)) = letterB c false := by
  unfold letterB lowB
  cases decide (97 ≤ c) <;> cases decide (c ≤ 122) <;> cases decide (48 ≤ c) <;> cases decide (c ≤ 57) <;> cases decide (c = 95) <;> rfl
def isWordB (s : Bs) : Bool := (decide (1 ≤ s.length) && decide (s.length ≤ 40)) && (lowB (bt s 0) && s.all fun c => letterB (c.toNat : Int) false)
theorem all_snoc {α : Type} {p : α → Bool} {s : List α} {i : Nat} (h : i < s.length) : (s.take (i + 1)).all p = ((s.take i).all p && p s[i]) := by
  rw [List.take_add_one, List.getElem?_eq_getElem h, List.all_append]
  simp
theorem all_not {α : Type} {p : α → Bool} {s : List α} {i : Nat} (h : i < s.length) (hp : p s[i] = false) : s.all p = false := by
  cases ha : s.all p with
  | false => rfl
  | true => rw [List.all_eq_true.1 ha _ (List.getElem_mem h)] at hp; cases hp
def wordC (c : UInt8) : Bool := letterB (c.toNat : Int) false
theorem word_def (s : Bs) : isWordB s = ((decide (1 ≤ s.length) && decide (s.length ≤ 40)) && (lowB (bt s 0) && s.all wordC)) := rfl
theorem word_ref_no {s : Bs} {i : Nat} (hi : i < s.length) (h : letterB (bt s (i : Int)) (decide ((i : Int) = 0)) = false) : isWordB s = false := by
  by_cases h0 : i = 0
  · subst h0
    have e : bt s ((0 : Nat) : Int) = bt s 0 := rfl
    rw [e] at h
    have hl : lowB (bt s 0) = false := by
      simp only [letterB, Bool.or_eq_false_iff] at h
      exact h.1
    rw [word_def, hl]; simp
  · have e : decide ((i : Int) = 0) = false := by simp; omega
    rw [e] at h
    rw [word_def, all_not hi (by unfold wordC; rw [← bt_nat hi]; exact h)]; simp
theorem word_ref {s : Bs} (ha : ∀ j, j < s.length → letterB (bt s (j : Int)) (decide ((j : Int) = 0)) = true) : (decide (1 ≤ (s.length : Int)) && decide ((s.length : Int) ≤ 40)) = isWordB s := by
  rw [word_def, show decide (1 ≤ (s.length : Int)) = decide (1 ≤ s.length) from decide_eq_decide.2 (by omega), show decide ((s.length : Int) ≤ 40) = decide (s.length ≤ 40) from decide_eq_decide.2 (by omega)]
  by_cases h0 : 1 ≤ s.length
  · have h1 : lowB (bt s 0) = true := by
      have := ha 0 (by omega)
      have e : bt s ((0 : Nat) : Int) = bt s 0 := rfl
      rw [e] at this
      simpa [letterB] using this
    have h2 : s.all wordC = true := by
      rw [List.all_eq_true]
      intro x hx
      obtain ⟨j, hj, rfl⟩ := List.mem_iff_getElem.1 hx
      have h3 := ha j hj
      rw [bt_nat hj] at h3
      unfold wordC
      by_cases e : j = 0
      · subst e
        simp only [letterB] at h3 ⊢
        simp at h3 ⊢
        exact .inl h3
      · have e2 : decide ((j : Int) = 0) = false := by simp; omega
        rw [e2] at h3
        exact h3
    rw [h1, h2]; simp
  · rw [decide_eq_false h0]; simp
def parseV (s : Bs) : Val × Int :=
  if s = [126] then (⟨0, 0, []⟩, 0) else if s = [84] then (⟨3, 1, []⟩, 0) else if s = [70] then (⟨3, 0, []⟩, 0)
  else if isWordB s = true then (⟨2, 0, s⟩, 0) else if ¬ erv (parseS s) = 0 then (⟨0, 0, []⟩, erv (parseS s)) else (⟨1, okv (parseS s), []⟩, 0)
theorem wordC_bt {s : Bs} {i : Nat} (h : i < s.length) : wordC s[i] = letterB (bt s i) false := by unfold wordC; rw [bt_nat h]
theorem word_len {s : Bs} (h : s = [] ∨ 40 < (s.length : Int)) : isWordB s = false := by
  rw [word_def]
  have : (decide (1 ≤ s.length) && decide (s.length ≤ 40)) = false := by
    simp only [Bool.and_eq_false_iff, decide_eq_false_iff_not]
    rcases h with rfl | h
    · left; simp
    · right; omega
  rw [this]; rfl
theorem word_first {s : Bs} (h : bt s 0 < 97 ∨ 122 < bt s 0) : isWordB s = false := by
  rw [word_def]
  have : lowB (bt s 0) = false := by simp only [lowB, Bool.and_eq_false_iff, decide_eq_false_iff_not]; omega
  rw [this]; simp
theorem word_at {s : Bs} {i : Nat} (hi : i < s.length) (h : letterB (bt s i) false = false) : isWordB s = false := by
  rw [word_def, all_not hi (by rw [wordC_bt hi]; exact h)]; simp
theorem word_yes {s : Bs} (h0 : ¬ s = []) (h1 : ¬ 40 < (s.length : Int)) (h2 : ¬ bt s 0 < 97) (h3 : ¬ 122 < bt s 0) (h4 : s.all wordC = true) : isWordB s = true := by
  have := List.length_pos_iff.2 h0
  rw [word_def, h4]
  simp only [lowB, Bool.and_true, Bool.and_eq_true, decide_eq_true_eq]
  omega
theorem ok_size {s : Bs} {most n : Int} (h : sizeS s most = .ok n) : digitsB s = true ∧ n = (dv s : Int) := by
  unfold sizeS at h
  split at h
  · rename_i hd
    split at h
    · cases h; exact ⟨hd, rfl⟩
    · cases h
  · cases h
theorem size_err {s : Bs} {most e : Int} (h : sizeS s most = .error e) : ¬ e = 0 := by
  unfold sizeS at h
  split at h
  · split at h
    · cases h
    · cases h; decide
  · cases h; decide
theorem parse_err {s : Bs} {e : Int} (h : parseS s = .error e) : ¬ e = 0 := by
  unfold parseS at h
  split at h
  · exact size_err h
  · split at h
    · rename_i hm; cases h; exact size_err hm
    · split at h
      · cases h; decide
      · cases h
theorem bt0 {b : UInt8} {s : Bs} : bt (b :: s) 0 = (b.toNat : Int) := rfl
theorem dd_not45 (k : Nat) : ¬ bt (dd k) 0 = 45 := by
  have h := dig_at (dd_all k) (i := 0) (dd_pos k)
  have e : bt (dd k) ((0 : Nat) : Int) = bt (dd k) 0 := rfl
  rw [e] at h
  omega
theorem parse_itoa {n : Int} (hn : -9223372036854775808 ≤ n ∧ n ≤ 9223372036854775807) : parseS (Lib.itoa n) = .ok n := by
  by_cases h : 0 ≤ n
  · rw [itoa_nn h, parse_pos (.inr (dd_not45 _)), size_ok (dd_digits _) (by rw [dd_dv]; omega), dd_dv]
    rw [show ((n.toNat : Nat) : Int) = n by omega]
  · rw [itoa_ng (by omega)]
    rw [parse_nok (s := 45 :: dd n.natAbs) ⟨by simp, rfl⟩ (dd_digits _) (fun e => by
      have e1 : dd n.natAbs = [48] := e
      have := dd_dv n.natAbs
      rw [e1] at this
      have e2 : dv [48] = 0 := rfl
      omega) (by show (dv (dd n.natAbs) : Int) ≤ _; rw [dd_dv]; omega)]
    show Except.ok (-(dv (dd n.natAbs) : Int)) = _
    rw [dd_dv]
    congr 1
    omega
theorem itoa_parse {s : Bs} {n : Int} (h : parseS s = .ok n) : Lib.itoa n = s := by
  unfold parseS at h
  split at h
  · obtain ⟨hd, rfl⟩ := ok_size h
    rw [itoa_nn (by omega)]
    exact dd_of hd
  · rename_i hc
    simp only [not_or, ne_eq, Classical.not_not] at hc
    split at h
    · cases h
    · rename_i m hm
      split at h
      · cases h
      · rename_i h0
        cases h
        obtain ⟨hd, rfl⟩ := ok_size hm
        rw [itoa_ng (by omega), show (-(dv (s.drop 1) : Int)).natAbs = dv (s.drop 1) by omega, dd_of hd]
        match s, hc with
        | b :: r, hc =>
          have e : b = 45 := UInt8.toNat_inj.1 (by have := hc.2; rw [bt0] at this; simp; omega)
          rw [e]; rfl
theorem parse_range {s : Bs} {n : Int} (h : parseS s = .ok n) : -9223372036854775808 ≤ n ∧ n ≤ 9223372036854775807 := by
  unfold parseS at h
  split at h
  · have := size_bound h; omega
  · split at h
    · cases h
    · rename_i hm
      split at h
      · cases h
      · cases h
        have := size_bound hm
        omega
theorem okv_range {s : Bs} : I64 (okv (parseS s)) := by
  cases hp : parseS s with
  | error e => exact (by decide : I64 0)
  | ok n => exact parse_range hp
theorem itoa_inj {a b : Int} (ha : I64 a) (hb : I64 b) (h : Lib.itoa a = Lib.itoa b) : a = b := by
  have h1 := parse_itoa ha
  rw [h, parse_itoa hb] at h1
  cases h1; rfl
theorem itoa_eq {a b : Int} (ha : I64 a) (hb : I64 b) : (Lib.itoa a == Lib.itoa b) = decide (a = b) := by
  by_cases h : a = b
  · subst h; simp
  · rw [decide_eq_false h]
    simp only [beq_eq_false_iff_ne, ne_eq]
    exact fun e => h (itoa_inj ha hb e)
theorem itoa_len {a b : Int} (ha : ¬ a < 0) (hb : ¬ b < 0) (h : a ≤ b) : (Lib.itoa a).length ≤ (Lib.itoa b).length := by
  rw [itoa_nn (by omega), itoa_nn (by omega)]
  have h1 := least_iff (dd_digits a.toNat) (dd_digits b.toNat)
  rw [dd_dv, dd_dv, decide_eq_true (show a.toNat ≤ b.toNat by omega)] at h1
  unfold leastB at h1
  simp only [Bool.or_eq_true, Bool.and_eq_true, decide_eq_true_eq] at h1
  omega
def rightV (v : Val) : Bool :=
  if v.k = 0 then decide (v.n = 0) && v.s == [] else if v.k = 1 then v.s == [] else if v.k = 2 then decide (v.n = 0) && isWordB v.s
  else if v.k = 3 then (decide (v.n = 0) || decide (v.n = 1)) && v.s == [] else false
def printV (v : Val) : Bs :=
  if rightV v = false then [] else if v.k = 0 then [126] else if v.k = 1 then Lib.itoa v.n else if v.k = 2 then v.s else if v.n = 1 then [84] else [70]
theorem right3 {x : Val} (h : rightV x = true) (h0 : ¬ x.k = 0) (h1 : ¬ x.k = 1) (h2 : ¬ x.k = 2) : x.k = 3 ∧ x.s = [] := by
  unfold rightV at h
  rw [if_neg h0, if_neg h1, if_neg h2] at h
  split at h
  · rename_i h3
    simp only [Bool.and_eq_true, beq_iff_eq] at h
    exact ⟨h3, h.2⟩
  · cases h
theorem right0 {x : Val} (h : rightV x = true) (h1 : ¬ x.k = 1) (h2 : ¬ x.k = 2) (h3 : ¬ x.k = 3) : x.k = 0 := by
  by_cases h0 : x.k = 0
  · exact h0
  · exact absurd (right3 h h0 h1 h2).1 h3
theorem print_len {x : Val} (hv : x.Wf) : (printV x).length ≤ 9223372036854775807 := by
  unfold printV
  split
  · decide
  split
  · decide
  split
  · have := Lib.itoa_length_le x.n hv.n.1 hv.n.2; omega
  split
  · exact hv.s
  split
  · decide
  · decide
theorem parse_wf {s : Bs} (hl : s.length ≤ 9223372036854775807) : (parseV s).1.Wf := by
  have h0 : I64 0 := by decide
  have h3 : I64 3 := by decide
  have h1 : I64 1 := by decide
  have h2 : I64 2 := by decide
  have hz : ([] : Bs).length ≤ 9223372036854775807 := by decide
  unfold parseV
  split
  · exact ⟨h0, h0, hz⟩
  split
  · exact ⟨h3, h1, hz⟩
  split
  · exact ⟨h3, h0, hz⟩
  split
  · exact ⟨h2, h0, hl⟩
  split
  · exact ⟨h0, h0, hz⟩
  · refine ⟨h1, ?_, hz⟩
    show I64 (okv (parseS s))
    cases hp : parseS s with
    | error e => exact h0
    | ok n => exact parse_range hp
theorem word_low {s : Bs} (h : isWordB s = true) : 97 ≤ bt s 0 ∧ bt s 0 ≤ 122 := by
  rw [word_def] at h
  simp only [lowB, Bool.and_eq_true, decide_eq_true_eq] at h
  exact h.2.1
theorem itoa_first {n : Int} : bt (Lib.itoa n) 0 = 45 ∨ (48 ≤ bt (Lib.itoa n) 0 ∧ bt (Lib.itoa n) 0 ≤ 57) := by
  by_cases h : 0 ≤ n
  · rw [itoa_nn h]
    exact .inr (dig_at (dd_all _) (i := 0) (dd_pos _))
  · rw [itoa_ng (by omega)]; exact .inl rfl
theorem itoa_noword {n : Int} : isWordB (Lib.itoa n) = false := by
  cases h : isWordB (Lib.itoa n) with
  | false => rfl
  | true => have := word_low h; have := itoa_first (n := n); omega
theorem bt_one (b : UInt8) : bt [b] 0 = (b.toNat : Int) := rfl
theorem parse_print {v : Val} (hn : -9223372036854775808 ≤ v.n ∧ v.n ≤ 9223372036854775807) (h : rightV v = true) : parseV (printV v) = (v, 0) := by
  obtain ⟨k, n, s⟩ := v
  unfold printV
  rw [if_neg (by rw [h]; decide)]
  unfold rightV at h
  dsimp only at h hn ⊢
  split at h
  · rename_i h1
    subst h1
    simp only [Bool.and_eq_true, decide_eq_true_eq, beq_iff_eq] at h
    obtain ⟨rfl, rfl⟩ := h
    rfl
  · rename_i h1
    rw [if_neg h1]
    split at h
    · rename_i h2
      subst h2
      rw [if_pos rfl]
      have hs : s = [] := by simpa using h
      subst hs
      have hf := itoa_first (n := n)
      unfold parseV
      rw [if_neg (fun e => by rw [e, bt_one] at hf; revert hf; decide), if_neg (fun e => by rw [e, bt_one] at hf; revert hf; decide), if_neg (fun e => by rw [e, bt_one] at hf; revert hf; decide), if_neg (by rw [itoa_noword]; decide), parse_itoa hn]
      rfl
    · rename_i h2
      rw [if_neg h2]
      split at h
      · rename_i h3
        subst h3
        rw [if_pos rfl]
        simp only [Bool.and_eq_true, decide_eq_true_eq] at h
        obtain ⟨rfl, hw⟩ := h
        have hf := word_low hw
        unfold parseV
        rw [if_neg (fun e => by rw [e, bt_one] at hf; revert hf; decide), if_neg (fun e => by rw [e, bt_one] at hf; revert hf; decide), if_neg (fun e => by rw [e, bt_one] at hf; revert hf; decide), if_pos hw]
      · rename_i h3
        rw [if_neg h3]
        split at h
        · rename_i h4
          subst h4
          simp only [Bool.and_eq_true, Bool.or_eq_true, decide_eq_true_eq, beq_iff_eq] at h
          obtain ⟨hn', rfl⟩ := h
          rcases hn' with rfl | rfl
          · rfl
          · rfl
        · cases h
theorem print_parse {s : Bs} (h : (parseV s).2 = 0) : rightV (parseV s).1 = true ∧ printV (parseV s).1 = s := by
  revert h
  unfold parseV
  split
  · rename_i h1; intro _; subst h1; exact ⟨rfl, rfl⟩
  split
  · rename_i h1; intro _; subst h1; exact ⟨rfl, rfl⟩
  split
  · rename_i h1; intro _; subst h1; exact ⟨rfl, rfl⟩
  split
  · rename_i hw
    intro _
    have hr : rightV ⟨2, 0, s⟩ = true := by show (decide ((0 : Int) = 0) && isWordB s) = true; rw [hw]; rfl
    refine ⟨hr, ?_⟩
    unfold printV
    rw [if_neg (by rw [hr]; decide)]
    rfl
  split
  · rename_i he; intro h; exact absurd h he
  · rename_i he
    intro _
    refine ⟨rfl, ?_⟩
    simp only [Classical.not_not] at he
    show Lib.itoa (okv (parseS s)) = s
    cases hp : parseS s with
    | error e =>
      rw [hp] at he
      have he' : e = 0 := he
      exfalso
      exact parse_err hp he'
    | ok n => exact itoa_parse hp

theorem take_snoc_eq {α : Type} {a b : List α} {i : Nat} (h : a.take i = b.take i) (ha : i < a.length) (hb : i < b.length) (e : a[i] = b[i]) : a.take (i + 1) = b.take (i + 1) := by
  rw [List.take_add_one, List.take_add_one, h, List.getElem?_eq_getElem ha, List.getElem?_eq_getElem hb, e]
/-- What a line has, and its note; the fault. -/
def noteS (s : Bs) : Bs × Bs × Bool × Int :=
  if cutF s 59 = false then (s, [], false, 0)
  else if (!Lib.hasSuffix (cutA s 59) [32]) = true ∨ 100 < ((cutB s 59).length : Int) ∨ 0 ≤ Lib.indexByte (cutB s 59) 10 then ([], [], false, 2)
  else (Lib.trimSuffix (cutA s 59) [32], cutB s 59, true, 0)
theorem cutA_len (s : Bs) (c : UInt8) : (cutA s c).length ≤ s.length := by
  unfold cutA
  rcases index_two s c with h | ⟨i, h⟩
  · rw [cut_none h]; exact Nat.le_refl _
  · rw [cut_some h, List.length_take]; omega
theorem cutB_len (s : Bs) (c : UInt8) : (cutB s c).length ≤ s.length := by
  unfold cutB
  rcases index_two s c with h | ⟨i, h⟩
  · rw [cut_none h]; exact Nat.zero_le _
  · rw [cut_some h, List.length_drop]; omega
theorem idx_none {s : Bs} {c : UInt8} (h : ∀ j (hj : j < s.length), ¬ s[j] = c) : Lib.indexByte s c = -1 := by
  induction s with
  | nil => rfl
  | cons b r ih =>
    have h0 := h 0 (by simp)
    have hr := ih fun j hj => h (j + 1) (by simpa using hj)
    simp only [List.getElem_cons_zero] at h0
    unfold Lib.indexByte
    rw [hr]
    simp [h0]
theorem idx_at {s : Bs} {c : UInt8} {i : Nat} (hi : i < s.length) (he : s[i] = c) (h : ∀ j (hj : j < i), ¬ s[j]'(by omega) = c) : Lib.indexByte s c = (i : Int) := by
  induction s generalizing i with
  | nil => simp at hi
  | cons b r ih =>
    unfold Lib.indexByte
    cases i with
    | zero =>
      have : b = c := he
      simp [this]
    | succ i =>
      have h0 := h 0 (by omega)
      simp only [List.getElem_cons_zero] at h0
      have hr := ih (i := i) (by simpa using hi) (by simpa using he) fun j hj => by have := h (j + 1) (by omega); simpa using this
      rw [hr]
      have hb : (b == c) = false := by simpa using h0
      have hx : (((i : Nat) : Int) == -1) = false := by
        simp only [beq_eq_false_iff_ne, ne_eq]; omega
      rw [hb, hx]
      simp
theorem idx_pos {s : Bs} {c : UInt8} {i : Nat} (hi : i < s.length) (he : s[i] = c) : 0 ≤ Lib.indexByte s c := by
  rcases index_two s c with h | ⟨k, h⟩
  · exfalso
    induction s generalizing i with
    | nil => simp at hi
    | cons b r ih =>
      unfold Lib.indexByte at h
      split at h
      · cases h
      · rename_i hb
        have hr : Lib.indexByte r c = -1 := by
          split at h
          · rename_i h2; simpa using h2
          · have := Lib.indexByte_ge r c; omega
        cases i with
        | zero => exact hb (by simpa using he)
        | succ i => exact ih (i := i) (by simpa using hi) (by simpa using he) hr
  · omega

theorem suff_snoc (q : Bs) (b c : UInt8) : Lib.hasSuffix (q ++ [b]) [c] = decide (b = c) := by
  unfold Lib.hasSuffix
  rw [Bool.eq_iff_iff, List.isSuffixOf_iff_suffix, decide_eq_true_eq]
  constructor
  · rintro ⟨t, h⟩
    exact (List.append_inj' h rfl).2 |> fun e => by simpa using e.symm
  · rintro rfl
    exact ⟨q, rfl⟩
theorem suff_nil (c : UInt8) : Lib.hasSuffix [] [c] = false := rfl
theorem trim_snoc (q : Bs) (c : UInt8) : Lib.trimSuffix (q ++ [c]) [c] = q := by
  unfold Lib.trimSuffix
  rw [suff_snoc, decide_eq_true rfl, if_pos rfl]
  simp
theorem note_none {s : Bs} {i : Nat} (h1 : s.length ≤ i) (ha : ∀ j (hj : j < s.length), ¬ s[j] = 59) : noteS s = (s, [], false, 0) := by
  unfold noteS cutF
  rw [cut_none (idx_none ha), if_pos rfl]
theorem note_at {s : Bs} {i : Nat} (hi : i < s.length) (he : s[i] = 59) (ha : ∀ j (hj : j < i), ¬ s[j]'(by omega) = 59) :
    noteS s = if ((i : Int) = 0 ∨ ¬ bt s ((i : Int) - 1) = 32) ∨ 100 < ((List.drop ((i : Int) + 1).toNat s).length : Int) ∨ 0 ≤ Lib.indexByte (List.drop ((i : Int) + 1).toNat s) 10 then ([], [], false, 2) else (List.take ((i : Int) - 1).toNat s, List.drop ((i : Int) + 1).toNat s, true, 0) := by
  have hc := cut_some (idx_at hi he ha)
  have e1 : ((i : Int) + 1).toNat = i + 1 := by omega
  unfold noteS cutF cutA cutB
  rw [hc, e1]
  dsimp only
  rw [if_neg (by decide)]
  rcases Nat.eq_zero_or_pos i with h0 | h0
  · subst h0
    rw [if_pos (by left; rfl), if_pos (by left; left; rfl)]
  · obtain ⟨k, rfl⟩ : ∃ k, i = k + 1 := ⟨i - 1, by omega⟩
    have e2 : (((k + 1 : Nat) : Int) - 1).toNat = k := by omega
    have e3 : s.take (k + 1) = s.take k ++ [s[k]] := take_snoc (by omega)
    have e4 : bt s (((k + 1 : Nat) : Int) - 1) = ((s[k].toNat : Nat) : Int) := by rw [show ((k + 1 : Nat) : Int) - 1 = (k : Int) by omega]; exact bt_nat (by omega)
    have e5 : (((k + 1 : Nat) : Int) = 0 ∨ ¬ bt s (((k + 1 : Nat) : Int) - 1) = 32) ↔ ¬ s[k] = 32 := by
      rw [e4]
      constructor
      · rintro (h | h)
        · omega
        · intro e; rw [e] at h; exact h rfl
      · intro h
        right
        intro e
        exact h (UInt8.toNat_inj.1 (by simpa using (by omega : s[k].toNat = 32)))
    rw [e2, e3, suff_snoc]
    by_cases hk : s[k] = 32
    · rw [hk, decide_eq_true rfl, trim_snoc]
      have : ¬ (((k + 1 : Nat) : Int) = 0 ∨ ¬ bt s (((k + 1 : Nat) : Int) - 1) = 32) := fun h => e5.1 h hk
      simp only [this, false_or, Bool.not_true, Bool.false_eq_true]
    · rw [decide_eq_false hk, if_pos (by left; rfl), if_pos (.inl (e5.2 hk))]

theorem note_cases (s : Bs) : (noteS s).2.2.2 = 0 ∨ noteS s = ([], [], false, 2) := by
  unfold noteS
  split
  · exact .inl rfl
  · split
    · exact .inr rfl
    · exact .inl rfl

def nb (b : UInt8) : Bool := !(b == 32)
def okW (x : Bs) : Bool := x.all nb && !(x == [])
theorem nb_step {x : Bs} {k : Nat} {Q : Bool} (hk : k < x.length) : (((x.take k).all nb && Q) && !decide (bt x ((k : Nat) : Int) = 32)) = ((x.take (k + 1)).all nb && Q) := by
  have e : (x.take (k + 1)).all nb = ((x.take k).all nb && nb x[k]) := by
    rw [List.take_add_one, List.getElem?_eq_getElem hk, List.all_append]; simp
  have e2 : (!decide (bt x ((k : Nat) : Int) = 32)) = nb x[k] := by
    unfold nb
    congr 1
    rw [bt_nat hk, Bool.eq_iff_iff, decide_eq_true_eq, beq_iff_eq]
    exact ⟨fun h => UInt8.toNat_inj.1 (by simpa using (by omega : x[k].toNat = 32)), fun h => by rw [h]; rfl⟩
  rw [e, e2]
  cases (x.take k).all nb <;> cases Q <;> cases nb x[k] <;> rfl
theorem okW_step {l : List Bs} {i k : Nat} {x : Bs} {D : Bool} (hi : i < l.length) (ex : l[i] = x) (hk : x.length ≤ k) : ((x.take k).all nb && (((l.take i).all okW && D) && !(x == []))) = ((l.take (i + 1)).all okW && D) := by
  have e : (l.take (i + 1)).all okW = ((l.take i).all okW && okW l[i]) := by
    rw [List.take_add_one, List.getElem?_eq_getElem hi, List.all_append]; simp
  rw [e, ex, List.take_of_length_le hk, show okW x = (x.all nb && !(x == [])) from rfl]
  cases x.all nb <;> cases D <;> cases (l.take i).all okW <;> cases (x == []) <;> rfl
theorem len_step {l : List Bs} {i : Nat} {x : Bs} (hi : i < l.length) (ex : l[i] = x) (h : ∀ x ∈ l.take i, x.length ≤ 100) (hx : x.length ≤ 100) : ∀ x ∈ l.take (i + 1), x.length ≤ 100 := by
  rw [List.take_add_one, List.getElem?_eq_getElem hi]
  intro y hy
  simp only [Option.toList_some, List.mem_append, List.mem_singleton] at hy
  rcases hy with hy | rfl
  · exact h y hy
  · rw [ex]; exact hx
theorem okW_all {l : List Bs} (h : l.all okW = true) : ∀ x ∈ l, 32 ∉ x ∧ x ≠ [] := by
  intro x hx
  have := List.all_eq_true.1 h x hx
  unfold okW at this
  simp only [Bool.and_eq_true, List.all_eq_true] at this
  refine ⟨fun hm => ?_, fun e => ?_⟩
  · have := this.1 32 hm
    exact absurd this (by decide)
  · rw [e] at this
    exact absurd this.2 (by decide)
theorem sub_lst' {c : UInt8} {s : Bs} {p : Nat × Nat} (h : p.2 = atS c s p.1) (hn : p.1 ≤ s.length) : sub s ((p.2 : Nat) : Int) ((p.1 : Nat) : Int) = lst c (s.take p.1) := by
  rw [h]; exact sub_lst hn
/-! `incognito/num.size` -/
set_option maxRecDepth 100000 in
set_option maxHeartbeats 4000000 in
theorem c_size (s : Bs) (most : Int) (w0 : World) (G : Heap) (hG : Sub G w0) (hm : 9 ≤ most ∧ most ≤ 9223372036854775808) (hl : s.length ≤ 9223372036854775807):
  Calls Tryz.prog 80 #[str s, .int .u64 most] w0 (Throws w0 G 34 (fun v _ => ∃ n, sizeS s most = .ok n ∧ v = .int .u64 n) (fun e => sizeS s most = .error e)) := by
 refine enter Tryz.func80 rfl Tryz.ntmps80 rfl ?_
 intro Q hQ a HE
 have HS := St.start0 hG
 refine sr fun K hK => ?_
 refine rn 1 HE HS ?_; clear HE HS; intro a w HE HS
 apply hK; clear hK K
 refine wp_seq_k (fun K3 hK2 => ?_)
 refine sr fun K hK => ?_
 refine rn 3 HE HS ?_; clear HE HS; intro a w HE HS
 refine cutG 9 20 (.bool ((s == []) || ((decide ((bt s 0) = 48)) && (decide (1 < (s.length : Int)))))) HE HS ?_ ?_
 ·refine bsp HE (t := 11) rfl (fun hb4 => ?_) (fun hb4 => ?_)
  ·skip
   refine rn 9 HE HS ?_; clear HE HS; intro a w HE HS
   exact ⟨HS, HE.cutT (by rw [hb4] <;> rfl)⟩
  ·have hk5 := nm hb4
   refine rn 1 HE HS ?_; clear HE HS; intro a w HE HS
   refine op_on HE rfl rfl hb4 ?_
   refine o_index HE rfl rfl rfl Tryz.underlying9 (by (have := List.length_pos_iff.2 (show s ≠ [] by assumption); omega)) ?_; clear HE; intro a HE
   refine rn 2 HE HS ?_; clear HE HS; intro a w HE HS
   refine cutG 4 19 (.bool ((decide ((bt s 0) = 48)) && (decide (1 < (s.length : Int))))) HE HS ?_ ?_
   ·refine bsp HE (t := 15) rfl (fun hb6 => ?_) (fun hb6 => ?_)
    ·have hk7 := nm hb6
     refine rn 4 HE HS ?_; clear HE HS; intro a w HE HS
     exact ⟨HS, HE.cutT (by rw [hb6] <;> rfl)⟩
    ·skip
     refine rn 4 HE HS ?_; clear HE HS; intro a w HE HS
     exact ⟨HS, HE.cutT (by rw [hb6] <;> rfl)⟩
   clear HE HS; intro a w HE HS
   refine rn 1 HE HS ?_; clear HE HS; intro a w HE HS
   exact ⟨HS, HE.cutT (by rw [hb4] <;> rfl)⟩
 clear HE HS; intro a w HE HS
 apply hK; clear hK K
 refine cond HE rfl (fun h9r => ?_) (fun h9r => ?_)
 ·have h9 := nm h9r
  refine wp_region_lit ?_
  refine o_mkIf HE rfl rfl T.n34 ?_; clear HE; intro a HE
  refine o_panic HE rfl ?_
  show Q (.panic _) _ _
  exact throwX hQ HE ⟨_, _, HS.stop (List.nil_sublist _), rfl, _, (by first | exact size_e2a h9 | exact size_e2b (i := i) (by omega) h9 | exact size_e3 hdg (j := j) (by omega) (by omega)), rfl⟩
 ·have h9 := nm h9r
  refine wp_skip ?_
  refine hK2 _ _ ?_; clear hK2
  refine wp_seq_k (fun K11 hK10 => ?_)
  refine sr fun K hK => ?_
  refine rn 3 HE HS ?_; clear HE HS; intro a w HE HS
  apply hK; clear hK K
  refine wp_block ?_
  refine loop (fun (i : Nat) a' w' => St w0 G [] G w' [] ∧ Env a' 68 [] [(0, str s), (1, .int .u64 most), (23, .int .i64 (s.length : Int)), (24, .int .i64 (i : Int))] ∧ (i ≤ s.length ∧ (s.take i).all digB = true)) (fun (i : Nat) => s.length - i) 0 ⟨HS, HE.cut ⟨rfl, rfl, rfl, rfl, trivial⟩, ⟨Nat.zero_le _, rfl⟩⟩ ?_
  clear HE HS; intro i a w ⟨HS, HE, ⟨hi, ha⟩⟩
  refine sr fun K hK => ?_
  refine rn 1 HE HS ?_; clear HE HS; intro a w HE HS
  apply hK; clear hK K
  refine wp_seq_k (fun K16 hK15 => ?_)
  refine cond HE rfl (fun h17r => ?_) (fun h17r => ?_)
  ·have h17 := nm h17r
   refine wp_skip ?_
   refine hK15 _ _ ?_; clear hK15
   refine wp_seq_k (fun K19 hK18 => ?_)
   refine wp_block ?_
   refine sr fun K hK => ?_
   refine rn 2 HE HS ?_; clear HE HS; intro a w HE HS
   apply hK; clear hK K
   refine sr fun K hK => ?_
   refine rn 2 HE HS ?_; clear HE HS; intro a w HE HS
   refine o_index HE rfl rfl rfl Tryz.underlying9 (by omega) ?_; clear HE; intro a HE
   refine rn 2 HE HS ?_; clear HE HS; intro a w HE HS
   refine cutG 5 36 (.bool ((decide ((bt s (i : Int)) < 48)) || (decide (57 < (bt s (i : Int)))))) HE HS ?_ ?_
   ·refine bsp HE (t := 31) rfl (fun hb21 => ?_) (fun hb21 => ?_)
    ·skip
     refine rn 5 HE HS ?_; clear HE HS; intro a w HE HS
     exact ⟨HS, HE.cutT (by rw [hb21] <;> rfl)⟩
    ·have hk22 := nm hb21
     refine rn 2 HE HS ?_; clear HE HS; intro a w HE HS
     refine op_on HE rfl rfl hb21 ?_
     refine o_index HE rfl rfl rfl Tryz.underlying9 (by omega) ?_; clear HE; intro a HE
     refine rn 2 HE HS ?_; clear HE HS; intro a w HE HS
     exact ⟨HS, HE.cutT (by rw [hb21] <;> rfl)⟩
   clear HE HS; intro a w HE HS
   apply hK; clear hK K
   refine cond HE rfl (fun h24r => ?_) (fun h24r => ?_)
   ·have h24 := nm h24r
    refine wp_region_lit ?_
    refine o_mkIf HE rfl rfl T.n34 ?_; clear HE; intro a HE
    refine o_panic HE rfl ?_
    show Q (.panic _) _ _
    exact throwX hQ HE ⟨_, _, HS.stop (List.nil_sublist _), rfl, _, (by first | exact size_e2a h24 | exact size_e2b (i := i) (by omega) h24 | exact size_e3 hdg (j := j) (by omega) (by omega)), rfl⟩
   ·have h24 := nm h24r
    refine wp_skip ?_
    refine hK18 _ _ ?_; clear hK18
    refine wp_region_lit ?_
    refine rn 2 HE HS ?_; clear HE HS; intro a w HE HS
    have hlt : i < s.length := by omega
    have ha2 : (s.take (i + 1)).all digB = true := by rw [all_take hlt, ha, dig_of hlt (by omega) (by omega)]; rfl
    exact ⟨i + 1, ⟨HS, HE.cut ⟨rfl, rfl, rfl, rfl, trivial⟩, ⟨by omega, ha2⟩⟩, by omega⟩
  ·have h17 := nm h17r
   refine wp_exit ?_
   refine hK10 _ _ ?_; clear hK10
   refine sr fun K hK => ?_
   refine rn 1 HE HS ?_; clear HE HS; intro a w HE HS
   apply hK; clear hK K
   refine wp_seq_k (fun K27 hK26 => ?_)
   refine sr fun K hK => ?_
   refine rn 3 HE HS ?_; clear HE HS; intro a w HE HS
   apply hK; clear hK K
   refine wp_block ?_
   have hall : s.all digB = true := by rw [show i = s.length by omega, List.take_length] at ha; exact ha
   have hdg : digitsB s = true := digits_of hall h9.1 h9.2
   refine loop (fun (j : Nat) a' w' => St w0 G [] G w' [] ∧ Env a' 68 [] [(0, str s), (1, .int .u64 most), (6, .int .u64 ((dv (s.take j) : Nat) : Int)), (40, .int .i64 (s.length : Int)), (41, .int .i64 (j : Int))] ∧ (j ≤ s.length ∧ ((dv (s.take j) : Nat) : Int) ≤ most)) (fun (j : Nat) => s.length - j) 0 ⟨HS, HE.cut ⟨rfl, rfl, rfl, rfl, rfl, trivial⟩, ⟨Nat.zero_le _, by show ((0 : Nat) : Int) ≤ most; omega⟩⟩ ?_
   clear HE HS; intro j a w ⟨HS, HE, ⟨hj, hb⟩⟩
   refine sr fun K hK => ?_
   refine rn 1 HE HS ?_; clear HE HS; intro a w HE HS
   apply hK; clear hK K
   refine wp_seq_k (fun K32 hK31 => ?_)
   refine cond HE rfl (fun h33r => ?_) (fun h33r => ?_)
   ·have h33 := nm h33r
    refine wp_skip ?_
    refine hK31 _ _ ?_; clear hK31
    refine wp_seq_k (fun K35 hK34 => ?_)
    refine wp_block ?_
    refine sr fun K hK => ?_
    refine rn 2 HE HS ?_; clear HE HS; intro a w HE HS
    apply hK; clear hK K
    refine sr fun K hK => ?_
    refine rn 2 HE HS ?_; clear HE HS; intro a w HE HS
    have hd : 48 ≤ bt s (j : Int) ∧ bt s (j : Int) ≤ 57 := dig_at hall (by omega)
    refine o_index HE rfl rfl rfl Tryz.underlying9 (by omega) ?_; clear HE; intro a HE
    refine o_subF HE rfl rfl rfl (wrap_u8 (by omega)) ?_; clear HE; intro a HE
    refine o_conv HE rfl rfl T.c5_122 (wrap_u64 (by omega)) ?_; clear HE; intro a HE
    refine rn 1 HE HS ?_; clear HE HS; intro a w HE HS
    apply hK; clear hK K
    refine wp_seq_k (fun K39 hK38 => ?_)
    refine sr fun K hK => ?_
    refine rn 2 HE HS ?_; clear HE HS; intro a w HE HS
    refine o_quoF HE rfl rfl rfl (by omega) (by rw [Int.tdiv_eq_ediv_of_nonneg (by omega)]; exact wrap_u64 (by omega)) ?_; clear HE; intro a HE
    refine rn 2 HE HS ?_; clear HE HS; intro a w HE HS
    refine cutG 7 60 (.bool ((decide ((most / 10) < ((dv (s.take j) : Nat) : Int))) || (decide ((most - ((bt s (j : Int)) - 48)) < (((dv (s.take j) : Nat) : Int) * 10))))) HE HS ?_ ?_
    ·refine bsp HE (t := 53) rfl (fun hb40 => ?_) (fun hb40 => ?_)
     ·skip
      refine rn 7 HE HS ?_; clear HE HS; intro a w HE HS
      exact ⟨HS, HE.cutT (by rw [hb40] <;> rfl)⟩
     ·have hk41 := nm hb40
      refine rn 1 HE HS ?_; clear HE HS; intro a w HE HS
      refine op_on HE rfl rfl hb40 ?_
      refine o_mulF HE rfl rfl rfl (wrap_u64 (by omega)) ?_; clear HE; intro a HE
      refine rn 2 HE HS ?_; clear HE HS; intro a w HE HS
      refine op_on HE rfl rfl hb40 ?_
      refine o_subF HE rfl rfl rfl (wrap_u64 (by omega)) ?_; clear HE; intro a HE
      refine rn 2 HE HS ?_; clear HE HS; intro a w HE HS
      exact ⟨HS, HE.cutT (by rw [hb40] <;> rfl)⟩
    clear HE HS; intro a w HE HS
    apply hK; clear hK K
    refine cond HE rfl (fun h43r => ?_) (fun h43r => ?_)
    ·have h43 := nm h43r
     refine wp_region_lit ?_
     refine o_mkIf HE rfl rfl T.n34 ?_; clear HE; intro a HE
     refine o_panic HE rfl ?_
     show Q (.panic _) _ _
     exact throwX hQ HE ⟨_, _, HS.stop (List.nil_sublist _), rfl, _, (by first | exact size_e2a h43 | exact size_e2b (i := i) (by omega) h43 | exact size_e3 hdg (j := j) (by omega) (by omega)), rfl⟩
    ·have h43 := nm h43r
     refine wp_skip ?_
     refine hK38 _ _ ?_; clear hK38
     refine wp_region_lit ?_
     refine rn 1 HE HS ?_; clear HE HS; intro a w HE HS
     refine o_mulF HE rfl rfl rfl (wrap_u64 (by omega)) ?_; clear HE; intro a HE
     refine rn 1 HE HS ?_; clear HE HS; intro a w HE HS
     refine o_addF HE rfl rfl rfl (wrap_u64 (by omega)) ?_; clear HE; intro a HE
     refine rn 1 HE HS ?_; clear HE HS; intro a w HE HS
     refine hK34 _ _ ?_; clear hK34
     refine wp_region_lit ?_
     refine rn 2 HE HS ?_; clear HE HS; intro a w HE HS
     have e6 : (((dv (s.take j) : Nat) : Int) * 10) + ((bt s (j : Int)) - 48) = ((dv (s.take (j + 1)) : Nat) : Int) := (dv_step hall (by omega)).symm
     rw [e6] at HE
     have hb2 : ((dv (s.take (j + 1)) : Nat) : Int) ≤ most := by omega
     exact ⟨j + 1, ⟨HS, HE.cut ⟨rfl, rfl, rfl, rfl, rfl, trivial⟩, ⟨by omega, hb2⟩⟩, by omega⟩
   ·have h33 := nm h33r
    refine wp_exit ?_
    refine hK26 _ _ ?_; clear hK26
    refine sr fun K hK => ?_
    refine rn 2 HE HS ?_; clear HE HS; intro a w HE HS
    apply hK; clear hK K
    refine rt hQ HE HS ?_
    have e : j = s.length := by omega
    subst e
    rw [List.take_length] at hb ⊢
    exact ⟨_, size_ok hdg hb, rfl⟩

/-! `incognito/num.Count$1` -/
set_option maxRecDepth 100000 in
set_option maxHeartbeats 4000000 in
theorem c_count1 (s : Bs) (most : Int) (b1 b2 : Nat) (w0 : World) (G : Heap) (hG : Sub G w0) (hC1 : CellsAt G b1 0 [str s]) (hC2 : CellsAt G b2 0 [.int .i64 most]) (hmr : I64 most) (hl : s.length ≤ 9223372036854775807):
  Calls Tryz.prog 79 #[.pointer (some ⟨b1, 0, none⟩), .pointer (some ⟨b2, 0, none⟩)] w0 (Throws w0 G 34 (fun v _ => ∃ n, countS s most = .ok n ∧ v = .int .i64 n) (fun e => countS s most = .error e)) := by
 refine enter Tryz.func79 rfl Tryz.ntmps79 rfl ?_
 intro Q hQ a HE
 have HS := St.start0 hG
 refine sr fun K hK => ?_
 refine rn 1 HE HS ?_; clear HE HS; intro a w HE HS
 apply hK; clear hK K
 refine sr fun K hK => ?_
 refine o_ldI HE rfl HS rfl T.s9 hC1 (j := 0) rfl rfl ?_; clear HE; intro a HE
 refine o_callE HE rfl HS rfl rfl T.g80 (c_size s 9223372036854775807 _ _ HS.sub (by omega) (by first | omega | (simp; omega))) (fun e G' w' HS hle he => show Q (.panic (thrown _ e)) _ _ from throwX hQ HE ⟨_, _, HS.stop (List.nil_sublist _), rfl, _, (by unfold countS; rw [he]), rfl⟩) ?_
 clear HE HS; rintro _ G2 w a HS hle2 ⟨n2, hn2, rfl⟩ HE
 replace hC1 := hC1.le hle2
 replace hC2 := hC2.le hle2
 refine rn 1 HE HS ?_; clear HE HS; intro a w HE HS
 apply hK; clear hK K
 refine wp_seq_k (fun K5 hK4 => ?_)
 refine sr fun K hK => ?_
 have hsb := size_bound hn2
 refine o_ldI HE rfl HS rfl T.s2 hC2 (j := 0) rfl rfl ?_; clear HE; intro a HE
 refine rn 2 HE HS ?_; clear HE HS; intro a w HE HS
 refine cutG 5 13 (.bool ((decide (most < 0)) || (decide (most < n2)))) HE HS ?_ ?_
 ·refine bsp HE (t := 8) rfl (fun hb6 => ?_) (fun hb6 => ?_)
  ·skip
   refine rn 5 HE HS ?_; clear HE HS; intro a w HE HS
   exact ⟨HS, HE.cutT (by rw [hb6] <;> rfl)⟩
  ·have hk7 := nm hb6
   refine rn 1 HE HS ?_; clear HE HS; intro a w HE HS
   refine op_on HE rfl rfl hb6 ?_
   refine o_ldI HE rfl HS rfl T.s2 hC2 (j := 0) rfl rfl ?_; clear HE; intro a HE
   refine op_on HE rfl rfl hb6 ?_
   refine o_conv HE rfl rfl T.c2_122 (wrap_u64 (by omega)) ?_; clear HE; intro a HE
   refine rn 2 HE HS ?_; clear HE HS; intro a w HE HS
   exact ⟨HS, HE.cutT (by rw [hb6] <;> rfl)⟩
 clear HE HS; intro a w HE HS
 apply hK; clear hK K
 refine cond HE rfl (fun h9r => ?_) (fun h9r => ?_)
 ·have h9 := nm h9r
  refine wp_region_lit ?_
  refine o_mkIf HE rfl rfl T.n34 ?_; clear HE; intro a HE
  refine o_panic HE rfl ?_
  show Q (.panic _) _ _
  exact throwX hQ HE ⟨_, _, HS.stop (List.nil_sublist _), rfl, _, (by unfold countS; rw [hn2]; exact if_pos h9), rfl⟩
 ·have h9 := nm h9r
  refine wp_skip ?_
  refine hK4 _ _ ?_; clear hK4
  refine sr fun K hK => ?_
  refine rn 1 HE HS ?_; clear HE HS; intro a w HE HS
  refine o_conv HE rfl rfl T.c122_2 (wrap_i64 (by omega)) ?_; clear HE; intro a HE
  refine rn 1 HE HS ?_; clear HE HS; intro a w HE HS
  apply hK; clear hK K
  refine rt hQ HE HS ?_
  exact ⟨_, by unfold countS; rw [hn2]; exact if_neg (by omega), rfl⟩

/-! `incognito/num.Parse$1` -/
set_option maxRecDepth 100000 in
set_option maxHeartbeats 4000000 in
theorem c_parse1 (s : Bs) (b1 : Nat) (w0 : World) (G : Heap) (hG : Sub G w0) (hC1 : CellsAt G b1 0 [str s]) (hl : s.length ≤ 9223372036854775807):
  Calls Tryz.prog 109 #[.pointer (some ⟨b1, 0, none⟩)] w0 (Throws w0 G 34 (fun v _ => ∃ n, parseS s = .ok n ∧ v = .int .i64 n) (fun e => parseS s = .error e)) := by
 refine enter Tryz.func109 rfl Tryz.ntmps109 rfl ?_
 intro Q hQ a HE
 have HS := St.start0 hG
 refine sr fun K hK => ?_
 refine rn 1 HE HS ?_; clear HE HS; intro a w HE HS
 apply hK; clear hK K
 refine wp_seq_k (fun K3 hK2 => ?_)
 refine sr fun K hK => ?_
 refine o_ldI HE rfl HS rfl T.s9 hC1 (j := 0) rfl rfl ?_; clear HE; intro a HE
 refine rn 2 HE HS ?_; clear HE HS; intro a w HE HS
 refine cutG 4 9 (.bool ((s == []) || (!decide ((bt s 0) = 45)))) HE HS ?_ ?_
 ·refine bsp HE (t := 5) rfl (fun hb4 => ?_) (fun hb4 => ?_)
  ·skip
   refine rn 4 HE HS ?_; clear HE HS; intro a w HE HS
   exact ⟨HS, HE.cutT (by rw [hb4] <;> rfl)⟩
  ·have hk5 := nm hb4
   refine op_on HE rfl rfl hb4 ?_
   refine o_ldI HE rfl HS rfl T.s9 hC1 (j := 0) rfl rfl ?_; clear HE; intro a HE
   refine op_on HE rfl rfl hb4 ?_
   refine o_index HE rfl rfl rfl Tryz.underlying9 (by (have := List.length_pos_iff.2 (show s ≠ [] by assumption); omega)) ?_; clear HE; intro a HE
   refine rn 2 HE HS ?_; clear HE HS; intro a w HE HS
   exact ⟨HS, HE.cutT (by rw [hb4] <;> rfl)⟩
 clear HE HS; intro a w HE HS
 apply hK; clear hK K
 refine cond HE rfl (fun h7r => ?_) (fun h7r => ?_)
 ·have h7 := nm h7r
  refine sr fun K hK => ?_
  refine o_ldI HE rfl HS rfl T.s9 hC1 (j := 0) rfl rfl ?_; clear HE; intro a HE
  refine o_callE HE rfl HS rfl rfl T.g80 (c_size s 9223372036854775807 _ _ HS.sub (by omega) (by first | omega | (simp; omega))) (fun e G' w' HS hle he => show Q (.panic (thrown _ e)) _ _ from throwX hQ HE ⟨_, _, HS.stop (List.nil_sublist _), rfl, _, (by unfold parseS; rw [if_pos (by simpa using h7)]; exact he), rfl⟩) ?_
  clear HE HS; rintro _ G8 w a HS hle8 ⟨n8, hn8, rfl⟩ HE
  replace hC1 := hC1.le hle8
  have hsb := size_bound hn8
  refine o_conv HE rfl rfl T.c122_2 (wrap_i64 (by omega)) ?_; clear HE; intro a HE
  refine rn 1 HE HS ?_; clear HE HS; intro a w HE HS
  apply hK; clear hK K
  refine rt hQ HE HS ?_
  refine ⟨_, ?_, rfl⟩
  unfold parseS
  rw [if_pos (by simpa using h7)]
  exact hn8
 ·have h7 := nm h7r
  refine wp_skip ?_
  refine hK2 _ _ ?_; clear hK2
  refine sr fun K hK => ?_
  refine o_ldI HE rfl HS rfl T.s9 hC1 (j := 0) rfl rfl ?_; clear HE; intro a HE
  have h0 := List.length_pos_iff.2 h7.1
  refine o_sliceLo HE rfl rfl rfl Tryz.underlying9 (by omega) ?_; clear HE; intro a HE
  refine o_callE HE rfl HS rfl rfl T.g80 (c_size (List.drop 1 s) 9223372036854775808 _ _ HS.sub (by omega) (by first | omega | (simp; omega))) (fun e G' w' HS hle he => show Q (.panic (thrown _ e)) _ _ from throwX hQ HE ⟨_, _, HS.stop (List.nil_sublist _), rfl, _, (by unfold parseS; rw [if_neg (by simpa using h7), he]), rfl⟩) ?_
  clear HE HS; rintro _ G10 w a HS hle10 ⟨n10, hn10, rfl⟩ HE
  replace hC1 := hC1.le hle10
  refine rn 1 HE HS ?_; clear HE HS; intro a w HE HS
  apply hK; clear hK K
  refine wp_seq_k (fun K13 hK12 => ?_)
  refine sr fun K hK => ?_
  have hsb := size_bound hn10
  refine rn 2 HE HS ?_; clear HE HS; intro a w HE HS
  apply hK; clear hK K
  refine cond HE rfl (fun h15r => ?_) (fun h15r => ?_)
  ·have h15 := nm h15r
   refine wp_region_lit ?_
   refine o_mkIf HE rfl rfl T.n34 ?_; clear HE; intro a HE
   refine o_panic HE rfl ?_
   show Q (.panic _) _ _
   exact throwX hQ HE ⟨_, _, HS.stop (List.nil_sublist _), rfl, _, (by unfold parseS; rw [if_neg (by simpa using h7), hn10]; exact if_pos h15), rfl⟩
  ·have h15 := nm h15r
   refine wp_skip ?_
   refine hK12 _ _ ?_; clear hK12
   refine sr fun K hK => ?_
   refine rn 1 HE HS ?_; clear HE HS; intro a w HE HS
   refine o_subF HE rfl rfl rfl (wrap_u64 (by omega)) ?_; clear HE; intro a HE
   refine o_conv HE rfl rfl T.c122_2 (wrap_i64 (by omega)) ?_; clear HE; intro a HE
   refine o_negF HE rfl rfl (wrap_i64 (by omega)) ?_; clear HE; intro a HE
   refine rn 2 HE HS ?_; clear HE HS; intro a w HE HS
   apply hK; clear hK K
   refine rt hQ HE HS ?_
   refine ⟨_, ?_, rfl⟩
   unfold parseS
   rw [if_neg (by simpa using h7), hn10]
   rw [show -(n10 - 1) - 1 = -n10 by omega]
   exact if_neg h15

theorem catch_idle (p q : Nat) (w : World) : CallsD Tryz.prog 93 #[.pointer (some ⟨p, 0, none⟩), .pointer (some ⟨q, 0, none⟩)] .returning w fun e u' w' => (∃ v, e = .returned v) ∧ u' = .returning ∧ w' = w := by
 refine enterS Tryz.func93 rfl Tryz.ntmps93 rfl fun c₀ cs hu a HE => ?_
 apply wpS_seq
 apply wpS_region
 show wpOpsS _ _ _ [0, 1] _ _ _
 refine opsS_recover rfl rfl rfl HE rfl run_recover (fun _ a HE => ?_) (fun v cs' h => by simp [recoverD, hu] at h)
 refine opsS_val (w' := w) (v := .nilIface) rfl rfl rfl HE rfl (by simp [execOp, HE.eval (x := .tmp 3) (v := .nilIface) rfl]) fun a HE => ?_
 show Code.wpS _ _ _ _ _ _
 apply wpS_seq
 apply wpS_region
 show wpOpsS _ _ _ [0, 1] _ _ _
 refine opsS_val (w' := w) (v := .nilIface) rfl rfl rfl HE rfl (by simp [execOp, HE.eval (x := .tmp 2) (v := .nilIface) rfl]) fun a HE => ?_
 refine opsS_val (w' := w) rfl rfl rfl HE rfl (run_isNil HE rfl T.i20) fun a HE => ?_
 show Code.wpS _ _ _ _ _ _
 refine wpS_cond (t := false) (HE.eval rfl) ?_
 simp only [Bool.false_eq_true, if_false]
 refine wpS_of_wp (wp_skip ?_)
 exact ⟨HE.defers, .returning, by cases c₀; simp_all, _, Res.nil.run rfl, ⟨_, rfl⟩, rfl, rfl⟩
theorem catch_pan (p q : Nat) (e : Int) (older : List PanicEntry) {x y : Value} {w0 : World} {G0 : Heap} {K0 : List Nat} {G : Heap} {w : World} {M0 : List Chunk} (HS : St w0 G0 K0 G w ([(q, Cells 34 [(0, y)])] :: [(p, Cells 2 [(0, x)])] :: M0)) :
  CallsD Tryz.prog 93 #[.pointer (some ⟨p, 0, none⟩), .pointer (some ⟨q, 0, none⟩)] (.panicking ({ v := .iface 34 (.int .i64 e), recovered := false } :: older)) w fun e' u' w' => (∃ v, e' = .returned v) ∧ u' = .panicking ({ v := .iface 34 (.int .i64 e), recovered := true } :: older) ∧ St w0 G0 K0 G w' ([(q, Cells 34 [(0, .int .i64 e)])] :: [(p, Cells 2 [(0, .int .i64 0)])] :: M0) := by
 refine enterS Tryz.func93 rfl Tryz.ntmps93 rfl fun c₀ cs hu a HE => ?_
 apply wpS_seq
 apply wpS_region
 show wpOpsS _ _ _ [0, 1] _ _ _
 refine opsS_recover rfl rfl rfl HE rfl run_recover (fun h => by simp [recoverD, hu] at h) (fun v cs' h a HE => ?_)
 obtain ⟨rfl, rfl⟩ : v = .iface 34 (.int .i64 e) ∧ cs' = { c₀ with mode := .panicking ({ v := .iface 34 (.int .i64 e), recovered := true } :: older) } :: cs := by
  simp [recoverD, hu] at h
  exact ⟨h.1.symm, h.2.symm⟩
 refine opsS_val (w' := w) (v := .iface 34 (.int .i64 e)) rfl rfl rfl HE rfl (by simp [execOp, HE.eval (x := .tmp 3) (v := .iface 34 (.int .i64 e)) rfl]) fun a HE => ?_
 show Code.wpS _ _ _ _ _ _
 apply wpS_seq
 apply wpS_region
 show wpOpsS _ _ _ [0, 1] _ _ _
 refine opsS_val (w' := w) (v := .iface 34 (.int .i64 e)) rfl rfl rfl HE rfl (by simp [execOp, HE.eval (x := .tmp 2) (v := .iface 34 (.int .i64 e)) rfl]) fun a HE => ?_
 refine opsS_val (w' := w) rfl rfl rfl HE rfl (run_isThere HE rfl T.i20) fun a HE => ?_
 show Code.wpS _ _ _ _ _ _
 refine wpS_cond (t := true) (HE.eval rfl) ?_
 simp only [if_true]
 refine wpS_of_wp (wp_region_any T.mix ?_)
 have HS := HS.drew
 clear h
 show wpAny _ _ _ _ 4 #[false, false, false, false] _ _
 refine any_node (l := [0, 2]) (by kernel_rfl) (by simp) fun i hi => ?_
 simp only [List.mem_cons, List.not_mem_nil, or_false] at hi
 rcases hi with rfl | rfl
 ·refine any_op rfl ?_
  refine o_move HE rfl rfl ?_; clear HE; intro a HE
  refine any_next (l2 := #[true, false, false, false]) (by kernel_rfl) ?_
  refine any_node (l := [1, 2]) (by kernel_rfl) (by simp) fun i hi => ?_
  simp only [List.mem_cons, List.not_mem_nil, or_false] at hi
  rcases hi with rfl | rfl
  ·refine any_op rfl ?_
   refine o_assert HE rfl rfl T.n34 ?_; clear HE; intro a HE
   refine any_next (l2 := #[true, true, false, false]) (by kernel_rfl) ?_
   refine any_node (l := [2]) (by kernel_rfl) (by simp) fun i hi => ?_
   simp only [List.mem_cons, List.not_mem_nil, or_false] at hi
   subst hi
   refine any_op rfl ?_
   refine o_st HE HS rfl rfl rfl T.s2 (.there (.here .here)) rfl ?_; clear HS; intro w HS
   refine any_next (l2 := #[true, true, true, false]) (by kernel_rfl) ?_
   refine any_node (l := [3]) (by kernel_rfl) (by simp) fun i hi => ?_
   simp only [List.mem_cons, List.not_mem_nil, or_false] at hi
   subst hi
   refine any_op rfl ?_
   refine o_st HE HS rfl rfl rfl T.s34 (.here .here) rfl ?_; clear HS; intro w HS
   refine any_next (l2 := #[true, true, true, true]) (by kernel_rfl) ?_
   refine any_end (by kernel_rfl) ?_
   exact ⟨HE.defers, _, rfl, _, Res.nil.run rfl, ⟨_, rfl⟩, rfl, (HS.conv (L2 := [(0, .int .i64 e)]) (.here .here) ⟨rfl, trivial⟩).conv (L2 := [(0, .int .i64 0)]) (.there (.here .here)) ⟨rfl, trivial⟩⟩
  ·refine any_op rfl ?_
   refine o_st HE HS rfl rfl rfl T.s2 (.there (.here .here)) rfl ?_; clear HS; intro w HS
   refine any_next (l2 := #[true, false, true, false]) (by kernel_rfl) ?_
   refine any_node (l := [1]) (by kernel_rfl) (by simp) fun i hi => ?_
   simp only [List.mem_cons, List.not_mem_nil, or_false] at hi
   subst hi
   refine any_op rfl ?_
   refine o_assert HE rfl rfl T.n34 ?_; clear HE; intro a HE
   refine any_next (l2 := #[true, true, true, false]) (by kernel_rfl) ?_
   refine any_node (l := [3]) (by kernel_rfl) (by simp) fun i hi => ?_
   simp only [List.mem_cons, List.not_mem_nil, or_false] at hi
   subst hi
   refine any_op rfl ?_
   refine o_st HE HS rfl rfl rfl T.s34 (.here .here) rfl ?_; clear HS; intro w HS
   refine any_next (l2 := #[true, true, true, true]) (by kernel_rfl) ?_
   refine any_end (by kernel_rfl) ?_
   exact ⟨HE.defers, _, rfl, _, Res.nil.run rfl, ⟨_, rfl⟩, rfl, (HS.conv (L2 := [(0, .int .i64 e)]) (.here .here) ⟨rfl, trivial⟩).conv (L2 := [(0, .int .i64 0)]) (.there (.here .here)) ⟨rfl, trivial⟩⟩
 ·refine any_op rfl ?_
  refine o_st HE HS rfl rfl rfl T.s2 (.there (.here .here)) rfl ?_; clear HS; intro w HS
  refine any_next (l2 := #[false, false, true, false]) (by kernel_rfl) ?_
  refine any_node (l := [0]) (by kernel_rfl) (by simp) fun i hi => ?_
  simp only [List.mem_cons, List.not_mem_nil, or_false] at hi
  subst hi
  refine any_op rfl ?_
  refine o_move HE rfl rfl ?_; clear HE; intro a HE
  refine any_next (l2 := #[true, false, true, false]) (by kernel_rfl) ?_
  refine any_node (l := [1]) (by kernel_rfl) (by simp) fun i hi => ?_
  simp only [List.mem_cons, List.not_mem_nil, or_false] at hi
  subst hi
  refine any_op rfl ?_
  refine o_assert HE rfl rfl T.n34 ?_; clear HE; intro a HE
  refine any_next (l2 := #[true, true, true, false]) (by kernel_rfl) ?_
  refine any_node (l := [3]) (by kernel_rfl) (by simp) fun i hi => ?_
  simp only [List.mem_cons, List.not_mem_nil, or_false] at hi
  subst hi
  refine any_op rfl ?_
  refine o_st HE HS rfl rfl rfl T.s34 (.here .here) rfl ?_; clear HS; intro w HS
  refine any_next (l2 := #[true, true, true, true]) (by kernel_rfl) ?_
  refine any_end (by kernel_rfl) ?_
  exact ⟨HE.defers, _, rfl, _, Res.nil.run rfl, ⟨_, rfl⟩, rfl, (HS.conv (L2 := [(0, .int .i64 e)]) (.here .here) ⟨rfl, trivial⟩).conv (L2 := [(0, .int .i64 0)]) (.there (.here .here)) ⟨rfl, trivial⟩⟩
theorem c_caught {f : Nat} {cs : List Value} {R : Value → Prop} {E : Int → Prop} (w0 : World) (G : Heap) (hG : Sub G w0) (hf : goFn Tryz.prog f = true) (hone : ∀ v, R v → X.one v = true)
  (hc : ∀ w1 G1, Heap.le G G1 → Sub G1 w1 → Calls Tryz.prog f cs.toArray w1 (Throws w1 G1 34 (fun v _ => R v) E)) :
  Calls Tryz.prog 78 #[.func (.func f) #[] cs.toArray] w0 (Ret w0 G (fun v _ => (∃ u, R u ∧ v = .tuple #[u, .int .i64 0]) ∨ ∃ e, E e ∧ v = .tuple #[.int .i64 0, .int .i64 e])) := by
 refine enterD Tryz.func78 rfl Tryz.ntmps78 rfl ?_
 intro Q hQ a HE
 have HS := St.start0 hG
 refine wp_seq_k (fun K hK => ?_); refine wp_region_lit ?_
 refine o_allocL [(0, _)] HE rfl HS T.z2 ⟨rfl, trivial⟩ ?_; clear HE HS; intro B2 w a HS HE
 refine o_allocL [(0, _)] HE rfl HS T.z34 ⟨rfl, trivial⟩ ?_; clear HE HS; intro B3 w a HS HE
 refine hK _ _ ?_; clear hK K
 refine wp_seq_k (fun K hK => ?_); refine wp_region_lit ?_
 refine o_func HE rfl rfl rfl ?_; clear HE; intro a HE
 refine o_defer HE rfl ?_; clear HE; intro a HE
 refine hK _ _ ?_; clear hK K
 refine wp_seq_k (fun K hK => ?_); refine wp_region_lit ?_
 refine o_move HE rfl rfl ?_; clear HE; intro a HE
 refine o_callE HE rfl HS (us := []) (vs := []) rfl rfl hf (by simpa using hc _ _ HS.le HS.sub) ?_ ?_
 ·clear HS; intro e G' w HS hle he
  refine hQ _ _ _ ?_
  show Leaves _ _ a.tmps _ a.defers _ _
  rw [HE.defers]
  refine leaves_cons (f := 93) (args := #[.pointer (some ⟨B2, 0, none⟩), .pointer (some ⟨B3, 0, none⟩)]) (by simp) (run_go T.g93 _) ?_
  refine (catch_pan B2 B3 e [] HS).mono ?_
  rintro e' u' w' ⟨⟨v, rfl⟩, rfl, HS⟩
  refine ⟨_, (HE.resS HS rfl T.s2 (.there (.here .here)) rfl (HE.resS HS rfl T.s34 (.here .here) rfl .nil)).run rfl, ⟨_, _, HS.stop (List.nil_sublist _), rfl, .inr ⟨e, he, rfl⟩⟩⟩
 ·clear HE HS; intro v G' w a HS hle hv HE
  have h1 := hone v hv
  refine o_st HE HS rfl rfl h1 T.s2 (.there (.here .here)) rfl ?_; clear HS; intro w HS
  refine o_st HE HS rfl rfl rfl T.s34 (.here .here) rfl ?_; clear HS; intro w HS
  refine hK _ _ ?_; clear hK K
  refine wp_ret ?_
  refine hQ _ _ _ ?_
  show Leaves _ _ a.tmps _ a.defers _ _
  rw [HE.defers]
  refine leaves_cons (f := 93) (args := #[.pointer (some ⟨B2, 0, none⟩), .pointer (some ⟨B3, 0, none⟩)]) (by simp) (run_go T.g93 _) ?_
  refine (catch_idle B2 B3 _).mono ?_
  rintro e' u' w' ⟨⟨v', rfl⟩, rfl, rfl⟩
  refine ⟨_, (HE.resS HS rfl T.s2 (.there (.here .here)) rfl (HE.resS HS rfl T.s34 (.here .here) rfl .nil)).run rfl, ⟨_, _, HS.stop (List.nil_sublist _), rfl, .inl ⟨v, hv, rfl⟩⟩⟩
theorem c_caughtI {f : Nat} {cs : List Value} {spec : Except Int Int} (w0 : World) (G : Heap) (hG : Sub G w0) (hf : goFn Tryz.prog f = true)
  (hc : ∀ w1 G1, Heap.le G G1 → Sub G1 w1 → Calls Tryz.prog f cs.toArray w1 (Throws w1 G1 34 (fun v _ => ∃ n, spec = .ok n ∧ v = .int .i64 n) (fun e => spec = .error e))) :
  Calls Tryz.prog 78 #[.func (.func f) #[] cs.toArray] w0 (Ret w0 G (fun v _ => v = .tuple #[.int .i64 (okv spec), .int .i64 (erv spec)])) := by
 refine (c_caught w0 G hG hf (by rintro v ⟨n, _, rfl⟩; rfl) hc).mono fun e w' he => ?_
 cases e with
 | returned v =>
  obtain ⟨G', M', h1, h2, h⟩ := he
  refine ⟨G', M', h1, h2, ?_⟩
  rcases h with ⟨u, ⟨n, rfl, rfl⟩, rfl⟩ | ⟨e, rfl, rfl⟩
  ·rfl
  ·rfl
 | panicked c => exact he
 | outgrown => exact he

/-! `incognito/num.Count` -/
set_option maxRecDepth 100000 in
set_option maxHeartbeats 4000000 in
theorem c_count (s : Bs) (most : Int) (w0 : World) (G : Heap) (hG : Sub G w0) (hmr : I64 most) (hl : s.length ≤ 9223372036854775807):
  Calls Tryz.prog 59 #[str s, .int .i64 most] w0 (Ret w0 G (fun v _ => v = .tuple #[.int .i64 (okv (countS s most)), .int .i64 (erv (countS s most))])) := by
 refine enter Tryz.func59 rfl Tryz.ntmps59 rfl ?_
 intro Q hQ a HE
 have HS := St.start0 hG
 refine sr fun K hK => ?_
 refine o_bx1 HE rfl HS rfl rfl ?_; clear HE HS; intro B2 w a HS HE
 refine o_bx1 HE rfl HS rfl rfl ?_; clear HE HS; intro B3 w a HS HE
 refine rn 2 HE HS ?_; clear HE HS; intro a w HE HS
 apply hK; clear hK K
 refine sr fun K hK => ?_
 refine rn 1 HE HS ?_; clear HE HS; intro a w HE HS
 obtain ⟨G2, hle4, hC3, HS'⟩ := HS.stillHead (n := 1) rfl; clear HS; have HS := HS'; clear HS'
 obtain ⟨G5, hle7, hC6, HS'⟩ := HS.stillHead (n := 1) rfl; clear HS; have HS := HS'; clear HS'
 replace hC3 := hC3.le hle7
 refine o_callP HE rfl HS rfl rfl T.g78 (c_caughtI (spec := countS s most) _ _ HS.sub T.g79 (fun w1 G1 hle hs => c_count1 s most _ _ w1 G1 hs (hC6.le hle) (hC3.le hle) hmr hl)) ?_
 clear HE HS; rintro _ w a HS rfl HE
 refine rn 4 HE HS ?_; clear HE HS; intro a w HE HS
 apply hK; clear hK K
 refine rt hQ HE HS ?_
 exact rfl

/-! `incognito/num.Parse` -/
set_option maxRecDepth 100000 in
set_option maxHeartbeats 4000000 in
theorem c_parse (s : Bs) (w0 : World) (G : Heap) (hG : Sub G w0) (hl : s.length ≤ 9223372036854775807):
  Calls Tryz.prog 94 #[str s] w0 (Ret w0 G (fun v _ => v = .tuple #[.int .i64 (okv (parseS s)), .int .i64 (erv (parseS s))])) := by
 refine enter Tryz.func94 rfl Tryz.ntmps94 rfl ?_
 intro Q hQ a HE
 have HS := St.start0 hG
 refine sr fun K hK => ?_
 refine o_bx1 HE rfl HS rfl rfl ?_; clear HE HS; intro B1 w a HS HE
 refine rn 2 HE HS ?_; clear HE HS; intro a w HE HS
 apply hK; clear hK K
 refine sr fun K hK => ?_
 refine rn 1 HE HS ?_; clear HE HS; intro a w HE HS
 obtain ⟨G2, hle4, hC3, HS'⟩ := HS.stillHead (n := 1) rfl; clear HS; have HS := HS'; clear HS'
 refine o_callP HE rfl HS rfl rfl T.g78 (c_caughtI (spec := parseS s) _ _ HS.sub T.g109 (fun w1 G1 hle hs => c_parse1 s _ w1 G1 hs (hC3.le hle) hl)) ?_
 clear HE HS; rintro _ w a HS rfl HE
 refine rn 4 HE HS ?_; clear HE HS; intro a w HE HS
 apply hK; clear hK K
 refine rt hQ HE HS ?_
 exact rfl

/-! `incognito/value.IsWord` -/
set_option maxRecDepth 100000 in
set_option maxHeartbeats 4000000 in
theorem c_isWord (s : Bs) (w0 : World) (G : Heap) (hG : Sub G w0) (hl : s.length ≤ 9223372036854775807):
  Calls Tryz.prog 46 #[str s] w0 (Ret w0 G (fun v _ => v = .bool (isWordB s))) := by
 refine enter Tryz.func46 rfl Tryz.ntmps46 rfl ?_
 intro Q hQ a HE
 have HS := St.start0 hG
 refine sr fun K hK => ?_
 refine rn 1 HE HS ?_; clear HE HS; intro a w HE HS
 apply hK; clear hK K
 refine wp_seq_k (fun K3 hK2 => ?_)
 refine sr fun K hK => ?_
 refine rn 3 HE HS ?_; clear HE HS; intro a w HE HS
 refine cutG 4 11 (.bool ((s == []) || (decide (40 < (s.length : Int))))) HE HS ?_ ?_
 ·refine bsp HE (t := 7) rfl (fun hb4 => ?_) (fun hb4 => ?_)
  ·skip
   refine rn 4 HE HS ?_; clear HE HS; intro a w HE HS
   exact ⟨HS, HE.cutT (by rw [hb4] <;> rfl)⟩
  ·have hk5 := nm hb4
   refine rn 4 HE HS ?_; clear HE HS; intro a w HE HS
   exact ⟨HS, HE.cutT (by rw [hb4] <;> rfl)⟩
 clear HE HS; intro a w HE HS
 refine rn 1 HE HS ?_; clear HE HS; intro a w HE HS
 refine cutG 4 16 (.bool (((s == []) || (decide (40 < (s.length : Int)))) || (decide ((bt s 0) < 97)))) HE HS ?_ ?_
 ·refine bsp HE (t := 12) rfl (fun hb6 => ?_) (fun hb6 => ?_)
  ·skip
   refine rn 4 HE HS ?_; clear HE HS; intro a w HE HS
   exact ⟨HS, HE.cutT (by rw [hb6] <;> rfl)⟩
  ·have hk7 := nm hb6
   refine rn 1 HE HS ?_; clear HE HS; intro a w HE HS
   refine op_on HE rfl rfl hb6 ?_
   refine o_index HE rfl rfl rfl Tryz.underlying9 (by (have := List.length_pos_iff.2 (show s ≠ [] by simp_all); omega)) ?_; clear HE; intro a HE
   refine rn 2 HE HS ?_; clear HE HS; intro a w HE HS
   exact ⟨HS, HE.cutT (by rw [hb6] <;> rfl)⟩
 clear HE HS; intro a w HE HS
 refine rn 1 HE HS ?_; clear HE HS; intro a w HE HS
 refine cutG 4 21 (.bool ((((s == []) || (decide (40 < (s.length : Int)))) || (decide ((bt s 0) < 97))) || (decide (122 < (bt s 0))))) HE HS ?_ ?_
 ·refine bsp HE (t := 17) rfl (fun hb8 => ?_) (fun hb8 => ?_)
  ·skip
   refine rn 4 HE HS ?_; clear HE HS; intro a w HE HS
   exact ⟨HS, HE.cutT (by rw [hb8] <;> rfl)⟩
  ·have hk9 := nm hb8
   refine rn 1 HE HS ?_; clear HE HS; intro a w HE HS
   refine op_on HE rfl rfl hb8 ?_
   refine o_index HE rfl rfl rfl Tryz.underlying9 (by (have := List.length_pos_iff.2 (show s ≠ [] by simp_all); omega)) ?_; clear HE; intro a HE
   refine rn 2 HE HS ?_; clear HE HS; intro a w HE HS
   exact ⟨HS, HE.cutT (by rw [hb8] <;> rfl)⟩
 clear HE HS; intro a w HE HS
 apply hK; clear hK K
 refine cond HE rfl (fun h11r => ?_) (fun h11r => ?_)
 ·have h11 := nm h11r
  refine sr fun K hK => ?_
  refine rn 1 HE HS ?_; clear HE HS; intro a w HE HS
  apply hK; clear hK K
  refine rt hQ HE HS ?_
  show _ = _
  simp only [packed, Value.bool.injEq]
  rcases h11 with ((h | h) | h) | h
  exact (word_len (.inl h)).symm
  exact (word_len (.inr h)).symm
  exact (word_first (.inl h)).symm
  exact (word_first (.inr h)).symm
 ·have h11 := nm h11r
  refine wp_skip ?_
  refine hK2 _ _ ?_; clear hK2
  refine wp_seq_k (fun K14 hK13 => ?_)
  refine sr fun K hK => ?_
  refine rn 3 HE HS ?_; clear HE HS; intro a w HE HS
  apply hK; clear hK K
  refine wp_block ?_
  refine loop (fun (i : Nat) a' w' => St w0 G [] G w' [] ∧ Env a' 50 [] [(0, str s), (23, .int .i64 (s.length : Int)), (24, .int .i64 (i : Int))] ∧ (i ≤ s.length ∧ (s.take i).all wordC = true)) (fun (i : Nat) => s.length - i) 0 ⟨HS, HE.cut ⟨rfl, rfl, rfl, trivial⟩, ⟨Nat.zero_le _, rfl⟩⟩ ?_
  clear HE HS; intro i a w ⟨HS, HE, ⟨hi, ha⟩⟩
  refine sr fun K hK => ?_
  refine rn 1 HE HS ?_; clear HE HS; intro a w HE HS
  apply hK; clear hK K
  refine wp_seq_k (fun K19 hK18 => ?_)
  refine cond HE rfl (fun h20r => ?_) (fun h20r => ?_)
  ·have h20 := nm h20r
   refine wp_skip ?_
   refine hK18 _ _ ?_; clear hK18
   refine wp_seq_k (fun K22 hK21 => ?_)
   refine wp_block ?_
   refine sr fun K hK => ?_
   refine rn 2 HE HS ?_; clear HE HS; intro a w HE HS
   apply hK; clear hK K
   refine sr fun K hK => ?_
   refine rn 2 HE HS ?_; clear HE HS; intro a w HE HS
   refine o_index HE rfl rfl rfl Tryz.underlying9 (by omega) ?_; clear HE; intro a HE
   refine rn 1 HE HS ?_; clear HE HS; intro a w HE HS
   apply hK; clear hK K
   refine sr fun K hK => ?_
   refine rn 3 HE HS ?_; clear HE HS; intro a w HE HS
   refine cutG 3 35 (.bool ((decide (97 ≤ (bt s (i : Int)))) && (decide ((bt s (i : Int)) ≤ 122)))) HE HS ?_ ?_
   ·refine bsp HE (t := 32) rfl (fun hb25 => ?_) (fun hb25 => ?_)
    ·have hk26 := nm hb25
     refine rn 3 HE HS ?_; clear HE HS; intro a w HE HS
     exact ⟨HS, HE.cutT (by rw [hb25] <;> rfl)⟩
    ·skip
     refine rn 3 HE HS ?_; clear HE HS; intro a w HE HS
     exact ⟨HS, HE.cutT (by rw [hb25] <;> rfl)⟩
   clear HE HS; intro a w HE HS
   refine rn 1 HE HS ?_; clear HE HS; intro a w HE HS
   refine cutG 7 43 (.bool (((decide (97 ≤ (bt s (i : Int)))) && (decide ((bt s (i : Int)) ≤ 122))) || ((decide (48 ≤ (bt s (i : Int)))) && (decide ((bt s (i : Int)) ≤ 57))))) HE HS ?_ ?_
   ·refine bsp HE (t := 36) rfl (fun hb27 => ?_) (fun hb27 => ?_)
    ·skip
     refine rn 7 HE HS ?_; clear HE HS; intro a w HE HS
     exact ⟨HS, HE.cutT (by rw [hb27] <;> rfl)⟩
    ·have hk28 := nm hb27
     refine rn 3 HE HS ?_; clear HE HS; intro a w HE HS
     refine cutG 3 42 (.bool ((decide (48 ≤ (bt s (i : Int)))) && (decide ((bt s (i : Int)) ≤ 57)))) HE HS ?_ ?_
     ·refine bsp HE (t := 39) rfl (fun hb29 => ?_) (fun hb29 => ?_)
      ·have hk30 := nm hb29
       refine rn 3 HE HS ?_; clear HE HS; intro a w HE HS
       exact ⟨HS, HE.cutT (by rw [hb29] <;> rfl)⟩
      ·skip
       refine rn 3 HE HS ?_; clear HE HS; intro a w HE HS
       exact ⟨HS, HE.cutT (by rw [hb29] <;> rfl)⟩
     clear HE HS; intro a w HE HS
     refine rn 1 HE HS ?_; clear HE HS; intro a w HE HS
     exact ⟨HS, HE.cutT (by rw [hb27] <;> rfl)⟩
   clear HE HS; intro a w HE HS
   refine rn 1 HE HS ?_; clear HE HS; intro a w HE HS
   refine cutG 3 47 (.bool ((((decide (97 ≤ (bt s (i : Int)))) && (decide ((bt s (i : Int)) ≤ 122))) || ((decide (48 ≤ (bt s (i : Int)))) && (decide ((bt s (i : Int)) ≤ 57)))) || (decide ((bt s (i : Int)) = 95)))) HE HS ?_ ?_
   ·refine bsp HE (t := 44) rfl (fun hb31 => ?_) (fun hb31 => ?_)
    ·skip
     refine rn 3 HE HS ?_; clear HE HS; intro a w HE HS
     exact ⟨HS, HE.cutT (by rw [hb31] <;> rfl)⟩
    ·have hk32 := nm hb31
     refine rn 3 HE HS ?_; clear HE HS; intro a w HE HS
     exact ⟨HS, HE.cutT (by rw [hb31] <;> rfl)⟩
   clear HE HS; intro a w HE HS
   refine rn 1 HE HS ?_; clear HE HS; intro a w HE HS
   apply hK; clear hK K
   refine cond HE rfl (fun h34r => ?_) (fun h34r => ?_)
   ·have h34 := nm h34r
    refine sr fun K hK => ?_
    refine rn 1 HE HS ?_; clear HE HS; intro a w HE HS
    apply hK; clear hK K
    refine rt hQ HE HS ?_
    show _ = _
    simp only [packed, Value.bool.injEq]
    have hz := h34r
    rw [letter_eq] at hz
    exact (word_at (i := i) (by omega) (by simpa using hz)).symm
   ·have h34 := nm h34r
    refine wp_skip ?_
    refine hK21 _ _ ?_; clear hK21
    refine wp_region_lit ?_
    refine rn 2 HE HS ?_; clear HE HS; intro a w HE HS
    have hlt : i < s.length := by omega
    have hz := h34r
    rw [letter_eq] at hz
    have ha2 : (s.take (i + 1)).all wordC = true := by rw [all_snoc hlt, ha, wordC_bt hlt, Bool.true_and]; simpa using hz
    exact ⟨i + 1, ⟨HS, HE.cut ⟨rfl, rfl, rfl, trivial⟩, ⟨by omega, ha2⟩⟩, by omega⟩
  ·have h20 := nm h20r
   refine wp_exit ?_
   refine hK13 _ _ ?_; clear hK13
   refine sr fun K hK => ?_
   refine rn 1 HE HS ?_; clear HE HS; intro a w HE HS
   apply hK; clear hK K
   refine rt hQ HE HS ?_
   show _ = _
   simp only [packed, Value.bool.injEq]
   exact (word_yes h11.1.1.1 h11.1.1.2 h11.1.2 h11.2 (by rwa [show i = s.length by omega, List.take_length] at ha)).symm

/-! `incognito/incognitoref07.letter` -/
set_option maxRecDepth 100000 in
set_option maxHeartbeats 4000000 in
theorem c_letter (c : Int) (f : Bool) (w0 : World) (G : Heap) (hG : Sub G w0) (hc : 0 ≤ c ∧ c ≤ 255):
  Calls Tryz.prog 69 #[.int .u8 c, .bool f] w0 (Ret w0 G (fun v _ => v = .bool (letterB c f))) := by
 refine enter Tryz.func69 rfl Tryz.ntmps69 rfl ?_
 intro Q hQ a HE
 have HS := St.start0 hG
 refine sr fun K hK => ?_
 refine rn 1 HE HS ?_; clear HE HS; intro a w HE HS
 apply hK; clear hK K
 refine wp_seq_k (fun K3 hK2 => ?_)
 refine sr fun K hK => ?_
 refine rn 1 HE HS ?_; clear HE HS; intro a w HE HS
 apply hK; clear hK K
 refine wp_block ?_
 refine loop (fun (x : Int) a' w' => St w0 G [] G w' [] ∧ Env a' 27 [] [(0, .int .u8 c), (1, .bool f), (5, .int .u8 x)] ∧ (97 ≤ x ∧ x ≤ 123 ∧ (97 ≤ c → x ≤ c))) (fun (x : Int) => (123 - x).toNat) 97 ⟨HS, HE.cut ⟨rfl, rfl, rfl, trivial⟩, ⟨by omega, by omega, fun h => h⟩⟩ ?_
 clear HE HS; intro x a w ⟨HS, HE, ⟨hx1, hx2, hx3⟩⟩
 refine wp_seq_k (fun K7 hK6 => ?_)
 refine sr fun K hK => ?_
 refine rn 2 HE HS ?_; clear HE HS; intro a w HE HS
 apply hK; clear hK K
 refine cond HE rfl (fun h9r => ?_) (fun h9r => ?_)
 ·have h9 := nm h9r
  refine wp_skip ?_
  refine hK6 _ _ ?_; clear hK6
  refine wp_seq_k (fun K11 hK10 => ?_)
  refine wp_block ?_
  refine sr fun K hK => ?_
  refine rn 3 HE HS ?_; clear HE HS; intro a w HE HS
  apply hK; clear hK K
  refine cond HE rfl (fun h13r => ?_) (fun h13r => ?_)
  ·have h13 := nm h13r
   refine sr fun K hK => ?_
   refine rn 1 HE HS ?_; clear HE HS; intro a w HE HS
   apply hK; clear hK K
   refine rt hQ HE HS ?_
   show _ = _
   simp only [packed, Value.bool.injEq]
   exact (by unfold letterB lowB; simp; omega : letterB c f = true).symm
  ·have h13 := nm h13r
   refine wp_skip ?_
   refine hK10 _ _ ?_; clear hK10
   refine wp_region_lit ?_
   refine rn 1 HE HS ?_; clear HE HS; intro a w HE HS
   refine o_addF HE rfl rfl rfl (wrap_u8 (by omega)) ?_; clear HE; intro a HE
   refine rn 1 HE HS ?_; clear HE HS; intro a w HE HS
   have hne : ¬ c = x := h13
   exact ⟨x + 1, ⟨HS, HE.cut ⟨rfl, rfl, rfl, trivial⟩, ⟨by omega, by omega, by omega⟩⟩, by omega⟩
 ·have h9 := nm h9r
  refine wp_exit ?_
  refine hK2 _ _ ?_; clear hK2
  refine sr fun K hK => ?_
  refine rn 3 HE HS ?_; clear HE HS; intro a w HE HS
  refine cutG 11 26 (.bool ((!f) && ((decide (c = 95)) || ((decide (48 ≤ c)) && (decide (c ≤ 57)))))) HE HS ?_ ?_
  ·refine bsp HE (t := 15) rfl (fun hb15 => ?_) (fun hb15 => ?_)
   ·have hk16 := nm hb15
    refine rn 3 HE HS ?_; clear HE HS; intro a w HE HS
    refine cutG 7 25 (.bool ((decide (c = 95)) || ((decide (48 ≤ c)) && (decide (c ≤ 57))))) HE HS ?_ ?_
    ·refine bsp HE (t := 18) rfl (fun hb17 => ?_) (fun hb17 => ?_)
     ·skip
      refine rn 7 HE HS ?_; clear HE HS; intro a w HE HS
      exact ⟨HS, HE.cutT (by rw [hb17] <;> rfl)⟩
     ·have hk18 := nm hb17
      refine rn 3 HE HS ?_; clear HE HS; intro a w HE HS
      refine cutG 3 24 (.bool ((decide (48 ≤ c)) && (decide (c ≤ 57)))) HE HS ?_ ?_
      ·refine bsp HE (t := 21) rfl (fun hb19 => ?_) (fun hb19 => ?_)
       ·have hk20 := nm hb19
        refine rn 3 HE HS ?_; clear HE HS; intro a w HE HS
        exact ⟨HS, HE.cutT (by rw [hb19] <;> rfl)⟩
       ·skip
        refine rn 3 HE HS ?_; clear HE HS; intro a w HE HS
        exact ⟨HS, HE.cutT (by rw [hb19] <;> rfl)⟩
      clear HE HS; intro a w HE HS
      refine rn 1 HE HS ?_; clear HE HS; intro a w HE HS
      exact ⟨HS, HE.cutT (by rw [hb17] <;> rfl)⟩
    clear HE HS; intro a w HE HS
    refine rn 1 HE HS ?_; clear HE HS; intro a w HE HS
    exact ⟨HS, HE.cutT (by rw [hb15] <;> rfl)⟩
   ·skip
    refine rn 11 HE HS ?_; clear HE HS; intro a w HE HS
    exact ⟨HS, HE.cutT (by rw [hb15] <;> rfl)⟩
  clear HE HS; intro a w HE HS
  refine rn 1 HE HS ?_; clear HE HS; intro a w HE HS
  apply hK; clear hK K
  refine rt hQ HE HS ?_
  show _ = _
  simp only [packed, Value.bool.injEq]
  have hz : lowB c = false := by simp only [lowB, Bool.and_eq_false_iff, decide_eq_false_iff_not]; omega
  unfold letterB
  rw [hz]
  first | done | rfl | simp

/-! `incognito/incognitoref07.IsWord` -/
set_option maxRecDepth 100000 in
set_option maxHeartbeats 4000000 in
theorem c_IsWord (s : Bs) (w0 : World) (G : Heap) (hG : Sub G w0) (hl : s.length ≤ 9223372036854775807):
  Calls Tryz.prog 49 #[str s] w0 (Ret w0 G (fun v _ => v = .bool (isWordB s))) := by
 refine enter Tryz.func49 rfl Tryz.ntmps49 rfl ?_
 intro Q hQ a HE
 have HS := St.start0 hG
 refine sr fun K hK => ?_
 refine rn 1 HE HS ?_; clear HE HS; intro a w HE HS
 apply hK; clear hK K
 refine wp_seq_k (fun K3 hK2 => ?_)
 refine sr fun K hK => ?_
 refine rn 1 HE HS ?_; clear HE HS; intro a w HE HS
 apply hK; clear hK K
 refine wp_block ?_
 refine loop (fun (i : Nat) a' w' => St w0 G [] G w' [] ∧ Env a' 25 [] [(0, str s), (2, .bool false), (3, .int .i64 (i : Int))] ∧ (i ≤ s.length ∧ ∀ j, j < i → letterB (bt s (j : Int)) (decide ((j : Int) = 0)) = true)) (fun (i : Nat) => s.length - i) 0 ⟨HS, HE.cut ⟨rfl, rfl, rfl, trivial⟩, ⟨Nat.zero_le _, fun j hj => absurd hj (Nat.not_lt_zero _)⟩⟩ ?_
 clear HE HS; intro i a w ⟨HS, HE, ⟨hi, ha⟩⟩
 refine wp_seq_k (fun K7 hK6 => ?_)
 refine sr fun K hK => ?_
 refine rn 4 HE HS ?_; clear HE HS; intro a w HE HS
 apply hK; clear hK K
 refine cond HE rfl (fun h9r => ?_) (fun h9r => ?_)
 ·have h9 := nm h9r
  refine wp_skip ?_
  refine hK6 _ _ ?_; clear hK6
  refine wp_seq_k (fun K11 hK10 => ?_)
  refine wp_block ?_
  refine sr fun K hK => ?_
  refine rn 2 HE HS ?_; clear HE HS; intro a w HE HS
  refine o_index HE rfl rfl rfl Tryz.underlying9 (by omega) ?_; clear HE; intro a HE
  refine rn 2 HE HS ?_; clear HE HS; intro a w HE HS
  refine o_callP HE rfl HS rfl rfl T.g69 (c_letter (bt s (i : Int)) (decide ((i : Int) = 0)) _ _ HS.sub (by first | exact bt_range _ _ | omega)) ?_
  clear HE HS; rintro _ w a HS rfl HE
  refine rn 1 HE HS ?_; clear HE HS; intro a w HE HS
  apply hK; clear hK K
  refine cond HE rfl (fun h13r => ?_) (fun h13r => ?_)
  ·have h13 := nm h13r
   refine sr fun K hK => ?_
   refine rn 1 HE HS ?_; clear HE HS; intro a w HE HS
   apply hK; clear hK K
   refine rt hQ HE HS ?_
   show _ = _
   simp only [packed, Value.bool.injEq]
   exact (word_ref_no (i := i) (by omega) (by simpa using h13r)).symm
  ·have h13 := nm h13r
   refine wp_skip ?_
   refine hK10 _ _ ?_; clear hK10
   refine wp_region_lit ?_
   refine rn 3 HE HS ?_; clear HE HS; intro a w HE HS
   have hlt : i < s.length := by omega
   have hz := h13r
   have ha2 : ∀ j, j < i + 1 → letterB (bt s (j : Int)) (decide ((j : Int) = 0)) = true := by
    intro j hj
    by_cases e : j = i
    ·subst e; simpa using hz
    ·exact ha j (by omega)
   exact ⟨i + 1, ⟨HS, HE.cut ⟨rfl, rfl, rfl, trivial⟩, ⟨by omega, ha2⟩⟩, by omega⟩
 ·have h9 := nm h9r
  refine wp_exit ?_
  refine hK2 _ _ ?_; clear hK2
  refine sr fun K hK => ?_
  refine rn 4 HE HS ?_; clear HE HS; intro a w HE HS
  refine cutG 4 24 (.bool ((decide (1 ≤ (s.length : Int))) && (decide ((s.length : Int) ≤ 40)))) HE HS ?_ ?_
  ·refine bsp HE (t := 20) rfl (fun hb15 => ?_) (fun hb15 => ?_)
   ·have hk16 := nm hb15
    refine rn 4 HE HS ?_; clear HE HS; intro a w HE HS
    exact ⟨HS, HE.cutT (by rw [hb15] <;> rfl)⟩
   ·skip
    refine rn 4 HE HS ?_; clear HE HS; intro a w HE HS
    exact ⟨HS, HE.cutT (by rw [hb15] <;> rfl)⟩
  clear HE HS; intro a w HE HS
  refine rn 1 HE HS ?_; clear HE HS; intro a w HE HS
  apply hK; clear hK K
  refine rt hQ HE HS ?_
  show _ = _
  simp only [packed, Value.bool.injEq]
  exact word_ref (by rw [show s.length = i by omega]; exact ha)

/-! `incognito/value.Parse` -/
set_option maxRecDepth 100000 in
set_option maxHeartbeats 4000000 in
theorem c_parseV (s : Bs) (w0 : World) (G : Heap) (hG : Sub G w0) (hg0 : CellsAt G 1 0 [.int .i64 3, .int .i64 1, str []]) (hg1 : CellsAt G 2 0 [.int .i64 3, .int .i64 0, str []]) (hl : s.length ≤ 9223372036854775807):
  Calls Tryz.prog 81 #[str s] w0 (Ret w0 G (fun v _ => v = .tuple #[.agg (valCells (parseV s).1).toArray, .int .i64 (parseV s).2])) := by
 refine enter Tryz.func81 rfl Tryz.ntmps81 rfl ?_
 intro Q hQ a HE
 have HS := St.start0 hG
 refine sr fun K hK => ?_
 refine o_allocZ HE rfl HS ?_; clear HE HS; intro B2 w a HS HE
 refine rn 1 HE HS ?_; clear HE HS; intro a w HE HS
 apply hK; clear hK K
 refine wp_seq_k (fun K3 hK2 => ?_)
 refine wp_block ?_
 refine sr fun K hK => ?_
 refine rn 3 HE HS ?_; clear HE HS; intro a w HE HS
 apply hK; clear hK K
 refine cond HE rfl (fun h5r => ?_) (fun h5r => ?_)
 ·have h5 := nm h5r
  refine sr fun K hK => ?_
  refine o_build (cs := #[.int .i64 0, .int .i64 0, str []]) HE rfl rfl (by kernel_rfl) ?_; clear HE; intro a HE
  refine rn 2 HE HS ?_; clear HE HS; intro a w HE HS
  apply hK; clear hK K
  refine rt hQ HE HS ?_
  have hp : parseV s = (⟨0, 0, []⟩, 0) := by
   unfold parseV
   rw [if_pos h5]
  show _ = _
  rw [hp]
  rfl
 ·have h5 := nm h5r
  refine sr fun K hK => ?_
  refine rn 3 HE HS ?_; clear HE HS; intro a w HE HS
  apply hK; clear hK K
  refine cond HE rfl (fun h8r => ?_) (fun h8r => ?_)
  ·have h8 := nm h8r
   refine sr fun K hK => ?_
   refine o_ldIA HE rfl HS rfl hg0 T.a23 ?_; clear HE; intro a HE
   refine rn 2 HE HS ?_; clear HE HS; intro a w HE HS
   apply hK; clear hK K
   refine rt hQ HE HS ?_
   have hp : parseV s = (⟨3, 1, []⟩, 0) := by
    unfold parseV
    rw [if_neg h5]
    rw [if_pos h8]
   show _ = _
   rw [hp]
   rfl
  ·have h8 := nm h8r
   refine sr fun K hK => ?_
   refine rn 3 HE HS ?_; clear HE HS; intro a w HE HS
   apply hK; clear hK K
   refine cond HE rfl (fun h11r => ?_) (fun h11r => ?_)
   ·have h11 := nm h11r
    refine sr fun K hK => ?_
    refine o_ldIA HE rfl HS rfl hg1 T.a23 ?_; clear HE; intro a HE
    refine rn 2 HE HS ?_; clear HE HS; intro a w HE HS
    apply hK; clear hK K
    refine rt hQ HE HS ?_
    have hp : parseV s = (⟨3, 0, []⟩, 0) := by
     unfold parseV
     rw [if_neg h5]
     rw [if_neg h8]
     rw [if_pos h11]
    show _ = _
    rw [hp]
    rfl
   ·have h11 := nm h11r
    refine sr fun K hK => ?_
    refine rn 1 HE HS ?_; clear HE HS; intro a w HE HS
    refine o_callP HE rfl HS rfl rfl T.g46 (c_isWord s _ _ HS.sub (by first | omega | exact hv.s | (simp; done) | (simp; omega))) ?_
    clear HE HS; rintro _ w a HS rfl HE
    refine rn 1 HE HS ?_; clear HE HS; intro a w HE HS
    apply hK; clear hK K
    refine cond HE rfl (fun h14r => ?_) (fun h14r => ?_)
    ·have h14 := nm h14r
     refine sr fun K hK => ?_
     refine rn 1 HE HS ?_; clear HE HS; intro a w HE HS
     refine o_build (cs := #[.int .i64 2, .int .i64 0, str s]) HE rfl rfl (by kernel_rfl) ?_; clear HE; intro a HE
     refine rn 2 HE HS ?_; clear HE HS; intro a w HE HS
     apply hK; clear hK K
     refine rt hQ HE HS ?_
     have hp : parseV s = (⟨2, 0, s⟩, 0) := by
      unfold parseV
      rw [if_neg h5]
      rw [if_neg h8]
      rw [if_neg h11]
      rw [if_pos h14]
     show _ = _
     rw [hp]
     rfl
    ·have h14 := nm h14r
     refine wp_skip ?_
     refine hK2 _ _ ?_; clear hK2
     refine sr fun K hK => ?_
     refine rn 1 HE HS ?_; clear HE HS; intro a w HE HS
     refine o_callP HE rfl HS rfl rfl T.g94 (c_parse s _ _ HS.sub (by first | omega | (simp; done) | (simp; omega))) ?_
     clear HE HS; rintro _ w a HS rfl HE
     refine rn 5 HE HS ?_; clear HE HS; intro a w HE HS
     apply hK; clear hK K
     refine wp_seq_k (fun K18 hK17 => ?_)
     refine sr fun K hK => ?_
     refine rn 2 HE HS ?_; clear HE HS; intro a w HE HS
     apply hK; clear hK K
     refine cond HE rfl (fun h20r => ?_) (fun h20r => ?_)
     ·have h20 := nm h20r
      refine sr fun K hK => ?_
      refine o_build (cs := #[.int .i64 0, .int .i64 0, str []]) HE rfl rfl (by kernel_rfl) ?_; clear HE; intro a HE
      refine rn 3 HE HS ?_; clear HE HS; intro a w HE HS
      apply hK; clear hK K
      refine rt hQ HE HS ?_
      have hp : parseV s = (⟨0, 0, []⟩, erv (parseS s)) := by
       unfold parseV
       rw [if_neg h5]
       rw [if_neg h8]
       rw [if_neg h11]
       rw [if_neg (by rw [h14]; decide)]
       rw [if_pos h20]
      show _ = _
      rw [hp]
      rfl
     ·have h20 := nm h20r
      refine wp_skip ?_
      refine hK17 _ _ ?_; clear hK17
      refine sr fun K hK => ?_
      refine rn 1 HE HS ?_; clear HE HS; intro a w HE HS
      refine o_build (cs := #[.int .i64 1, .int .i64 (okv (parseS s)), str []]) HE rfl rfl (by kernel_rfl) ?_; clear HE; intro a HE
      refine rn 2 HE HS ?_; clear HE HS; intro a w HE HS
      apply hK; clear hK K
      refine rt hQ HE HS ?_
      have hp : parseV s = (⟨1, okv (parseS s), []⟩, 0) := by
       unfold parseV
       rw [if_neg h5]
       rw [if_neg h8]
       rw [if_neg h11]
       rw [if_neg (by rw [h14]; decide)]
       rw [if_neg (by simp [h20])]
      show _ = _
      rw [hp]
      rfl

/-! `incognito/incognitoref06.Print` -/
set_option maxRecDepth 100000 in
set_option maxHeartbeats 4000000 in
theorem c_Print6 (n : Int) (w0 : World) (G : Heap) (hG : Sub G w0) (hn : I64 n):
  Calls Tryz.prog 31 #[.int .i64 n] w0 (Ret w0 G (fun v _ => v = str (Lib.itoa n))) := by
 refine enter Tryz.func31 rfl Tryz.ntmps31 rfl ?_
 intro Q hQ a HE
 have HS := St.start0 hG
 refine sr fun K hK => ?_
 refine rn 1 HE HS ?_; clear HE HS; intro a w HE HS
 apply hK; clear hK K
 refine sr fun K hK => ?_
 refine rn 1 HE HS ?_; clear HE HS; intro a w HE HS
 apply hK; clear hK K
 refine wp_seq_k (fun K4 hK3 => ?_)
 refine sr fun K hK => ?_
 refine rn 2 HE HS ?_; clear HE HS; intro a w HE HS
 apply hK; clear hK K
 refine wp_block ?_
 refine loop (fun (p : Int × Bs) a' w' => St w0 G [] G w' [] ∧ Env a' 30 [] [(0, .int .i64 n), (3, str p.2), (4, .int .i64 p.1)] ∧ (dd n.natAbs = dd p.1.natAbs ++ p.2 ∧ I64 p.1)) (fun (p : Int × Bs) => p.1.natAbs) (n, []) ⟨HS, HE.cut ⟨rfl, rfl, rfl, trivial⟩, ⟨by simp, hn⟩⟩ ?_
 clear HE HS; intro p a w ⟨HS, HE, ⟨hd, hr⟩⟩
 refine wp_seq_k (fun K8 hK7 => ?_)
 refine wp_block ?_
 refine sr fun K hK => ?_
 refine rn 1 HE HS ?_; clear HE HS; intro a w HE HS
 have hta := tdiv_abs p.1
 have htm := tmod_abs p.1
 refine o_remW HE rfl rfl rfl (by omega) ?_; clear HE; intro a HE
 refine rn 1 HE HS ?_; clear HE HS; intro a w HE HS
 apply hK; clear hK K
 refine cutJ [(5, .int .i64 ((Int.tmod p.1 10).natAbs : Int))] HE HS ?_ ?_
 ·skip
  refine sr fun K hK => ?_
  refine rn 2 HE HS ?_; clear HE HS; intro a w HE HS
  apply hK; clear hK K
  refine cond HE rfl (fun h11r => ?_) (fun h11r => ?_)
  ·have h11 := nm h11r
   refine wp_region_lit ?_
   refine rn 1 HE HS ?_; clear HE HS; intro a w HE HS
   refine o_negF HE rfl rfl (wrap_i64 (by omega)) ?_; clear HE; intro a HE
   refine rn 1 HE HS ?_; clear HE HS; intro a w HE HS
   exact ⟨HS, HE.cutX ⟨by show some (.int .i64 (-(Int.tmod p.1 10)) : Value) = some (.int .i64 ((Int.tmod p.1 10).natAbs : Int) : Value); congr 2; omega, trivial⟩⟩
  ·have h11 := nm h11r
   refine wp_skip ?_
   exact ⟨HS, HE.cutX ⟨by show some (.int .i64 (Int.tmod p.1 10) : Value) = some (.int .i64 ((Int.tmod p.1 10).natAbs : Int) : Value); congr 2; omega, trivial⟩⟩
 clear HE HS; intro a w HE HS
 refine sr fun K hK => ?_
 refine rn 2 HE HS ?_; clear HE HS; intro a w HE HS
 refine o_conv HE rfl rfl T.c2_5 (wrap_u8 (by omega)) ?_; clear HE; intro a HE
 refine o_buildSl (cs := #[.int .u8 (48 + ((Int.tmod p.1 10).natAbs : Int))]) [(0, _)] HE rfl HS rfl T.l58 (by kernel_rfl) ⟨rfl, trivial⟩ ?_; clear HE HS; intro B18 w a HS HE
 refine o_b2s (ns := [48 + ((Int.tmod p.1 10).natAbs : Int)]) HE rfl HS rfl T.b58_9 (.here .here) rfl ?_; clear HE; intro a HE
 refine rn 1 HE HS ?_; clear HE HS; intro a w HE HS
 refine o_cat HE rfl rfl rfl (by (have e1 := congrArg List.length hd; have e2 := dd_len hn; simp at e1 ⊢; omega)) ?_; clear HE; intro a HE
 refine rn 1 HE HS ?_; clear HE HS; intro a w HE HS
 apply hK; clear hK K
 refine sr fun K hK => ?_
 refine rn 1 HE HS ?_; clear HE HS; intro a w HE HS
 refine o_quoT HE rfl rfl rfl (by decide) (wrap_i64 (by exact tdiv_range hr)) ?_; clear HE; intro a HE
 refine rn 1 HE HS ?_; clear HE HS; intro a w HE HS
 apply hK; clear hK K
 refine cond HE rfl (fun h14r => ?_) (fun h14r => ?_)
 ·have h14 := nm h14r
  refine wp_exit ?_
  refine hK3 _ _ ?_; clear hK3
  refine wp_seq_k (fun K16 hK15 => ?_)
  refine sr fun K hK => ?_
  refine rn 2 HE HS ?_; clear HE HS; intro a w HE HS
  apply hK; clear hK K
  refine cond HE rfl (fun h18r => ?_) (fun h18r => ?_)
  ·have h18 := nm h18r
   refine sr fun K hK => ?_
   refine rn 1 HE HS ?_; clear HE HS; intro a w HE HS
   refine o_cat HE rfl rfl rfl (by (have e1 := congrArg List.length hd; have e2 := dd_len hn; simp at e1 ⊢; omega)) ?_; clear HE; intro a HE
   refine rn 1 HE HS ?_; clear HE HS; intro a w HE HS
   apply hK; clear hK K
   refine rt hQ HE HS ?_
   have e := (hd.trans (dd_last h14)).symm
   show _ = _
   unfold Lib.itoa
   rw [if_pos h18]
   exact congrArg str (congrArg (45 :: ·) e)
  ·have h18 := nm h18r
   refine wp_skip ?_
   refine hK15 _ _ ?_; clear hK15
   refine sr fun K hK => ?_
   refine rn 2 HE HS ?_; clear HE HS; intro a w HE HS
   apply hK; clear hK K
   refine rt hQ HE HS ?_
   have e := (hd.trans (dd_last h14)).symm
   show _ = _
   unfold Lib.itoa
   rw [if_neg (by omega), show n.toNat = n.natAbs by omega]
   exact congrArg str e
 ·have h14 := nm h14r
  refine wp_skip ?_
  refine hK7 _ _ ?_; clear hK7
  refine wp_region_lit ?_
  refine rn 1 HE HS ?_; clear HE HS; intro a w HE HS
  refine o_quoT HE rfl rfl rfl (by decide) (wrap_i64 (by exact tdiv_range hr)) ?_; clear HE; intro a HE
  refine rn 1 HE HS ?_; clear HE HS; intro a w HE HS
  replace HS := HS.drop (M' := []) (sub_drop sub_nil)
  have hq := h14
  have hd2 := dd_step (m := p.1) (s := p.2) hq
  have hta := tdiv_abs p.1
  exact ⟨(Int.tdiv p.1 10, (([48 + ((Int.tmod p.1 10).natAbs : Int)]).map fun (n : Int) => UInt8.ofNat n.toNat) ++ p.2), ⟨HS, HE.cut ⟨rfl, rfl, rfl, trivial⟩, ⟨hd.trans hd2, tdiv_range hr⟩⟩, (by dsimp only; omega)⟩

theorem gPow : Tryz.prog.globalNamed "internal/strconv.uint64pow10" = some 6 := by kernel_rfl

/-! `incognito/num.Print` -/
set_option maxRecDepth 100000 in
set_option maxHeartbeats 4000000 in
theorem c_print6 (n : Int) (w0 : World) (G : Heap) (hG : Sub G w0) (hn : I64 n) (hT : TabG G 6 .u64 Lib.pow10Tab):
  Calls Tryz.prog 26 #[.int .i64 n] w0 (Ret w0 G (fun v _ => v = str (Lib.itoa n))) := by
 refine enter Tryz.func26 rfl Tryz.ntmps26 rfl ?_
 intro Q hQ a HE
 have HS := St.start0 hG
 refine sr fun K hK => ?_
 refine rn 1 HE HS ?_; clear HE HS; intro a w HE HS
 apply hK; clear hK K
 refine sr fun K hK => ?_
 refine rn 1 HE HS ?_; clear HE HS; intro a w HE HS
 refine o_callP HE rfl HS rfl rfl T.g50 (calls_grow HS.sub (Tryz.strconv_FormatInt_10 n (by first | exact hn.1 | omega) (by first | exact hn.2 | omega) _ (TabG.is HS.sub gPow hT))) ?_
 clear HE HS; rintro _ w a HS rfl HE
 refine rn 1 HE HS ?_; clear HE HS; intro a w HE HS
 apply hK; clear hK K
 refine rt hQ HE HS ?_
 exact rfl

/-! `incognito/value.Right` -/
set_option maxRecDepth 100000 in
set_option maxHeartbeats 4000000 in
theorem c_right7 (x : Val) (w0 : World) (G : Heap) (hG : Sub G w0) (hg0 : CellsAt G 1 0 [.int .i64 3, .int .i64 1, str []]) (hg1 : CellsAt G 2 0 [.int .i64 3, .int .i64 0, str []]) (hv : x.Wf):
  Calls Tryz.prog 22 #[.agg #[.int .i64 x.k, .int .i64 x.n, str x.s]] w0 (Ret w0 G (fun v _ => v = .bool (rightV x))) := by
 refine enter Tryz.func22 rfl Tryz.ntmps22 rfl ?_
 intro Q hQ a HE
 have HS := St.start0 hG
 refine sr fun K hK => ?_
 refine o_bx3 HE rfl HS rfl ?_; clear HE HS; intro B1 w a HS HE
 refine rn 1 HE HS ?_; clear HE HS; intro a w HE HS
 apply hK; clear hK K
 refine wp_seq_k (fun K3 hK2 => ?_)
 refine sr fun K hK => ?_
 refine rn 2 HE HS ?_; clear HE HS; intro a w HE HS
 apply hK; clear hK K
 refine wp_block ?_
 refine sr fun K hK => ?_
 refine rn 2 HE HS ?_; clear HE HS; intro a w HE HS
 apply hK; clear hK K
 refine cond HE rfl (fun h6r => ?_) (fun h6r => ?_)
 ·have h6 := nm h6r
  refine sr fun K hK => ?_
  refine rn 1 HE HS ?_; clear HE HS; intro a w HE HS
  refine o_build (cs := #[.int .i64 0, .int .i64 0, str []]) HE rfl rfl (by kernel_rfl) ?_; clear HE; intro a HE
  refine o_eqA (b := decide (x.k = 0) && (decide (x.n = 0) && (x.s == [] && true))) HE rfl rfl rfl T.q23 rfl rfl ?_; clear HE; intro a HE
  refine rn 1 HE HS ?_; clear HE HS; intro a w HE HS
  apply hK; clear hK K
  refine rt hQ HE HS ?_
  show _ = _
  simp only [packed, Value.bool.injEq]
  symm
  unfold rightV
  rw [if_pos h6]
  first | rfl | (simp [h6]; done)
 ·have h6 := nm h6r
  refine sr fun K hK => ?_
  refine rn 2 HE HS ?_; clear HE HS; intro a w HE HS
  apply hK; clear hK K
  refine cond HE rfl (fun h9r => ?_) (fun h9r => ?_)
  ·have h9 := nm h9r
   refine sr fun K hK => ?_
   refine rn 4 HE HS ?_; clear HE HS; intro a w HE HS
   apply hK; clear hK K
   refine rt hQ HE HS ?_
   show _ = _
   simp only [packed, Value.bool.injEq]
   symm
   unfold rightV
   rw [if_neg h6]
   rw [if_pos h9]
   first | done | rfl | simp
  ·have h9 := nm h9r
   refine sr fun K hK => ?_
   refine rn 2 HE HS ?_; clear HE HS; intro a w HE HS
   apply hK; clear hK K
   refine cond HE rfl (fun h12r => ?_) (fun h12r => ?_)
   ·have h12 := nm h12r
    refine sr fun K hK => ?_
    refine rn 4 HE HS ?_; clear HE HS; intro a w HE HS
    refine cutG 4 24 (.bool ((decide (x.n = 0)) && (isWordB x.s))) HE HS ?_ ?_
    ·refine bsp HE (t := 20) rfl (fun hb13 => ?_) (fun hb13 => ?_)
     ·have hk14 := nm hb13
      refine rn 2 HE HS ?_; clear HE HS; intro a w HE HS
      refine op_on HE rfl rfl hb13 ?_
      refine o_callP HE rfl HS rfl rfl T.g46 (c_isWord x.s _ _ HS.sub (by first | omega | exact hv.s | (simp; done) | (simp; omega))) ?_
      clear HE HS; rintro _ w a HS rfl HE
      refine rn 1 HE HS ?_; clear HE HS; intro a w HE HS
      exact ⟨HS, HE.cutT (by rw [hb13] <;> rfl)⟩
     ·skip
      refine rn 4 HE HS ?_; clear HE HS; intro a w HE HS
      exact ⟨HS, HE.cutT (by rw [hb13] <;> rfl)⟩
    clear HE HS; intro a w HE HS
    refine rn 1 HE HS ?_; clear HE HS; intro a w HE HS
    apply hK; clear hK K
    refine rt hQ HE HS ?_
    show _ = _
    simp only [packed, Value.bool.injEq]
    symm
    unfold rightV
    rw [if_neg h6]
    rw [if_neg h9]
    rw [if_pos h12]
    first | done | rfl | simp
   ·have h12 := nm h12r
    refine wp_skip ?_
    refine hK2 _ _ ?_; clear hK2
    refine sr fun K hK => ?_
    refine rn 1 HE HS ?_; clear HE HS; intro a w HE HS
    refine o_ldIA HE rfl HS rfl hg0 T.a23 ?_; clear HE; intro a HE
    refine o_eqA (b := decide (x.k = 3) && (decide (x.n = 1) && (x.s == [] && true))) HE rfl rfl rfl T.q23 rfl rfl ?_; clear HE; intro a HE
    refine rn 1 HE HS ?_; clear HE HS; intro a w HE HS
    refine cutG 4 32 (.bool ((decide (x.k = 3) && (decide (x.n = 1) && (x.s == [] && true))) || (decide (x.k = 3) && (decide (x.n = 0) && (x.s == [] && true))))) HE HS ?_ ?_
    ·refine bsp HE (t := 28) rfl (fun hb16 => ?_) (fun hb16 => ?_)
     ·skip
      refine rn 4 HE HS ?_; clear HE HS; intro a w HE HS
      exact ⟨HS, HE.cutT (by rw [hb16] <;> rfl)⟩
     ·have hk17 := nm hb16
      refine rn 1 HE HS ?_; clear HE HS; intro a w HE HS
      refine op_on HE rfl rfl hb16 ?_
      refine o_ldIA HE rfl HS rfl hg1 T.a23 ?_; clear HE; intro a HE
      refine op_on HE rfl rfl hb16 ?_
      refine o_eqA (b := decide (x.k = 3) && (decide (x.n = 0) && (x.s == [] && true))) HE rfl rfl rfl T.q23 rfl rfl ?_; clear HE; intro a HE
      refine rn 1 HE HS ?_; clear HE HS; intro a w HE HS
      exact ⟨HS, HE.cutT (by rw [hb16] <;> rfl)⟩
    clear HE HS; intro a w HE HS
    refine rn 1 HE HS ?_; clear HE HS; intro a w HE HS
    apply hK; clear hK K
    refine rt hQ HE HS ?_
    show _ = _
    simp only [packed, Value.bool.injEq]
    symm
    unfold rightV
    rw [if_neg h6]
    rw [if_neg h9]
    rw [if_neg h12]
    by_cases h3 : x.k = 3
    ·rw [if_pos h3]; simp only [h3, decide_true, Bool.true_and, Bool.and_true]; cases decide (x.n = 0) <;> cases decide (x.n = 1) <;> cases (x.s == ([] : Bs)) <;> rfl
    ·rw [if_neg h3, decide_eq_false h3]; rfl

/-! `incognito/incognitoref07.Right` -/
set_option maxRecDepth 100000 in
set_option maxHeartbeats 4000000 in
theorem c_Right7 (x : Val) (w0 : World) (G : Heap) (hG : Sub G w0) (hv : x.Wf):
  Calls Tryz.prog 25 #[.agg #[.int .i64 x.k, .int .i64 x.n, str x.s]] w0 (Ret w0 G (fun v _ => v = .bool (rightV x))) := by
 refine enter Tryz.func25 rfl Tryz.ntmps25 rfl ?_
 intro Q hQ a HE
 have HS := St.start0 hG
 refine sr fun K hK => ?_
 refine o_bx3 HE rfl HS rfl ?_; clear HE HS; intro B1 w a HS HE
 refine rn 1 HE HS ?_; clear HE HS; intro a w HE HS
 apply hK; clear hK K
 refine wp_seq_k (fun K3 hK2 => ?_)
 refine sr fun K hK => ?_
 refine rn 2 HE HS ?_; clear HE HS; intro a w HE HS
 apply hK; clear hK K
 refine wp_block ?_
 refine sr fun K hK => ?_
 refine rn 2 HE HS ?_; clear HE HS; intro a w HE HS
 apply hK; clear hK K
 refine cond HE rfl (fun h6r => ?_) (fun h6r => ?_)
 ·have h6 := nm h6r
  refine sr fun K hK => ?_
  refine rn 4 HE HS ?_; clear HE HS; intro a w HE HS
  refine cutG 4 14 (.bool ((decide (x.n = 0)) && (x.s == []))) HE HS ?_ ?_
  ·refine bsp HE (t := 10) rfl (fun hb7 => ?_) (fun hb7 => ?_)
   ·have hk8 := nm hb7
    refine rn 4 HE HS ?_; clear HE HS; intro a w HE HS
    exact ⟨HS, HE.cutT (by rw [hb7] <;> rfl)⟩
   ·skip
    refine rn 4 HE HS ?_; clear HE HS; intro a w HE HS
    exact ⟨HS, HE.cutT (by rw [hb7] <;> rfl)⟩
  clear HE HS; intro a w HE HS
  refine rn 1 HE HS ?_; clear HE HS; intro a w HE HS
  apply hK; clear hK K
  refine rt hQ HE HS ?_
  show _ = _
  simp only [packed, Value.bool.injEq]
  symm
  unfold rightV
  rw [if_pos h6]
  first | done | rfl | simp
 ·have h6 := nm h6r
  refine sr fun K hK => ?_
  refine rn 2 HE HS ?_; clear HE HS; intro a w HE HS
  apply hK; clear hK K
  refine cond HE rfl (fun h11r => ?_) (fun h11r => ?_)
  ·have h11 := nm h11r
   refine sr fun K hK => ?_
   refine rn 4 HE HS ?_; clear HE HS; intro a w HE HS
   apply hK; clear hK K
   refine rt hQ HE HS ?_
   show _ = _
   simp only [packed, Value.bool.injEq]
   symm
   unfold rightV
   rw [if_neg h6]
   rw [if_pos h11]
   first | done | rfl | simp
  ·have h11 := nm h11r
   refine sr fun K hK => ?_
   refine rn 2 HE HS ?_; clear HE HS; intro a w HE HS
   apply hK; clear hK K
   refine cond HE rfl (fun h14r => ?_) (fun h14r => ?_)
   ·have h14 := nm h14r
    refine sr fun K hK => ?_
    refine rn 4 HE HS ?_; clear HE HS; intro a w HE HS
    refine cutG 4 29 (.bool ((decide (x.n = 0)) && (isWordB x.s))) HE HS ?_ ?_
    ·refine bsp HE (t := 25) rfl (fun hb15 => ?_) (fun hb15 => ?_)
     ·have hk16 := nm hb15
      refine rn 2 HE HS ?_; clear HE HS; intro a w HE HS
      refine op_on HE rfl rfl hb15 ?_
      refine o_callP HE rfl HS rfl rfl T.g49 (c_IsWord x.s _ _ HS.sub (by first | omega | exact hv.s | (simp; done) | (simp; omega))) ?_
      clear HE HS; rintro _ w a HS rfl HE
      refine rn 1 HE HS ?_; clear HE HS; intro a w HE HS
      exact ⟨HS, HE.cutT (by rw [hb15] <;> rfl)⟩
     ·skip
      refine rn 4 HE HS ?_; clear HE HS; intro a w HE HS
      exact ⟨HS, HE.cutT (by rw [hb15] <;> rfl)⟩
    clear HE HS; intro a w HE HS
    refine rn 1 HE HS ?_; clear HE HS; intro a w HE HS
    apply hK; clear hK K
    refine rt hQ HE HS ?_
    show _ = _
    simp only [packed, Value.bool.injEq]
    symm
    unfold rightV
    rw [if_neg h6]
    rw [if_neg h11]
    rw [if_pos h14]
    first | done | rfl | simp
   ·have h14 := nm h14r
    refine sr fun K hK => ?_
    refine rn 2 HE HS ?_; clear HE HS; intro a w HE HS
    apply hK; clear hK K
    refine cond HE rfl (fun h19r => ?_) (fun h19r => ?_)
    ·have h19 := nm h19r
     refine sr fun K hK => ?_
     refine rn 4 HE HS ?_; clear HE HS; intro a w HE HS
     refine cutG 4 39 (.bool ((decide (x.n = 0)) || (decide (x.n = 1)))) HE HS ?_ ?_
     ·refine bsp HE (t := 35) rfl (fun hb20 => ?_) (fun hb20 => ?_)
      ·skip
       refine rn 4 HE HS ?_; clear HE HS; intro a w HE HS
       exact ⟨HS, HE.cutT (by rw [hb20] <;> rfl)⟩
      ·have hk21 := nm hb20
       refine rn 4 HE HS ?_; clear HE HS; intro a w HE HS
       exact ⟨HS, HE.cutT (by rw [hb20] <;> rfl)⟩
     clear HE HS; intro a w HE HS
     refine rn 1 HE HS ?_; clear HE HS; intro a w HE HS
     refine cutG 4 44 (.bool (((decide (x.n = 0)) || (decide (x.n = 1))) && (x.s == []))) HE HS ?_ ?_
     ·refine bsp HE (t := 40) rfl (fun hb22 => ?_) (fun hb22 => ?_)
      ·have hk23 := nm hb22
       refine rn 4 HE HS ?_; clear HE HS; intro a w HE HS
       exact ⟨HS, HE.cutT (by rw [hb22] <;> rfl)⟩
      ·skip
       refine rn 4 HE HS ?_; clear HE HS; intro a w HE HS
       exact ⟨HS, HE.cutT (by rw [hb22] <;> rfl)⟩
     clear HE HS; intro a w HE HS
     refine rn 1 HE HS ?_; clear HE HS; intro a w HE HS
     apply hK; clear hK K
     refine rt hQ HE HS ?_
     show _ = _
     simp only [packed, Value.bool.injEq]
     symm
     unfold rightV
     rw [if_neg h6]
     rw [if_neg h11]
     rw [if_neg h14]
     rw [if_pos h19]
     first | done | rfl | simp
    ·have h19 := nm h19r
     refine wp_skip ?_
     refine hK2 _ _ ?_; clear hK2
     refine sr fun K hK => ?_
     refine rn 1 HE HS ?_; clear HE HS; intro a w HE HS
     apply hK; clear hK K
     refine rt hQ HE HS ?_
     show _ = _
     simp only [packed, Value.bool.injEq]
     symm
     unfold rightV
     rw [if_neg h6]
     rw [if_neg h11]
     rw [if_neg h14]
     rw [if_neg h19]
     first | done | rfl | simp

/-! `incognito/value.Print` -/
set_option maxRecDepth 100000 in
set_option maxHeartbeats 4000000 in
theorem c_print7 (x : Val) (w0 : World) (G : Heap) (hG : Sub G w0) (hg0 : CellsAt G 1 0 [.int .i64 3, .int .i64 1, str []]) (hg1 : CellsAt G 2 0 [.int .i64 3, .int .i64 0, str []]) (hT : TabG G 6 .u64 Lib.pow10Tab) (hv : x.Wf):
  Calls Tryz.prog 27 #[.agg #[.int .i64 x.k, .int .i64 x.n, str x.s]] w0 (Ret w0 G (fun v _ => v = str (printV x))) := by
 refine enter Tryz.func27 rfl Tryz.ntmps27 rfl ?_
 intro Q hQ a HE
 have HS := St.start0 hG
 refine sr fun K hK => ?_
 refine o_bx3 HE rfl HS rfl ?_; clear HE HS; intro B1 w a HS HE
 refine rn 1 HE HS ?_; clear HE HS; intro a w HE HS
 apply hK; clear hK K
 refine wp_seq_k (fun K3 hK2 => ?_)
 refine wp_block ?_
 refine sr fun K hK => ?_
 refine rn 1 HE HS ?_; clear HE HS; intro a w HE HS
 refine o_callP HE rfl HS rfl rfl T.g22 (c_right7 x _ _ HS.sub hg0 hg1 (by first | assumption | exact hv | (constructor <;> first | assumption | (simp only [I64]; omega) | (simp; omega)))) ?_
 clear HE HS; rintro _ w a HS rfl HE
 refine rn 2 HE HS ?_; clear HE HS; intro a w HE HS
 apply hK; clear hK K
 refine cond HE rfl (fun h5r => ?_) (fun h5r => ?_)
 ·have h5 := nm h5r
  refine sr fun K hK => ?_
  refine rn 1 HE HS ?_; clear HE HS; intro a w HE HS
  apply hK; clear hK K
  refine rt hQ HE HS ?_
  show _ = _
  unfold printV
  rw [if_pos h5]
  rfl
 ·have h5 := nm h5r
  refine sr fun K hK => ?_
  refine rn 4 HE HS ?_; clear HE HS; intro a w HE HS
  apply hK; clear hK K
  refine cond HE rfl (fun h8r => ?_) (fun h8r => ?_)
  ·have h8 := nm h8r
   refine sr fun K hK => ?_
   refine rn 1 HE HS ?_; clear HE HS; intro a w HE HS
   apply hK; clear hK K
   refine rt hQ HE HS ?_
   show _ = _
   unfold printV
   rw [if_neg (by rw [h5]; decide)]
   repeat (first | rw [if_pos (by omega)] | rw [if_neg (by omega)])
   first | done | rfl
  ·have h8 := nm h8r
   refine sr fun K hK => ?_
   refine rn 4 HE HS ?_; clear HE HS; intro a w HE HS
   apply hK; clear hK K
   refine cond HE rfl (fun h11r => ?_) (fun h11r => ?_)
   ·have h11 := nm h11r
    refine sr fun K hK => ?_
    refine rn 2 HE HS ?_; clear HE HS; intro a w HE HS
    refine o_callP HE rfl HS rfl rfl T.g26 (c_print6 x.n _ _ HS.sub (by first | assumption | exact hv.n | omega) hT) ?_
    clear HE HS; rintro _ w a HS rfl HE
    refine rn 1 HE HS ?_; clear HE HS; intro a w HE HS
    apply hK; clear hK K
    refine rt hQ HE HS ?_
    show _ = _
    unfold printV
    rw [if_neg (by rw [h5]; decide)]
    repeat (first | rw [if_pos (by omega)] | rw [if_neg (by omega)])
    first | done | rfl
   ·have h11 := nm h11r
    refine sr fun K hK => ?_
    refine rn 4 HE HS ?_; clear HE HS; intro a w HE HS
    apply hK; clear hK K
    refine cond HE rfl (fun h14r => ?_) (fun h14r => ?_)
    ·have h14 := nm h14r
     refine sr fun K hK => ?_
     refine rn 3 HE HS ?_; clear HE HS; intro a w HE HS
     apply hK; clear hK K
     refine rt hQ HE HS ?_
     show _ = _
     unfold printV
     rw [if_neg (by rw [h5]; decide)]
     repeat (first | rw [if_pos (by omega)] | rw [if_neg (by omega)])
     first | done | rfl
    ·have h14 := nm h14r
     refine sr fun K hK => ?_
     refine rn 1 HE HS ?_; clear HE HS; intro a w HE HS
     refine o_ldIA HE rfl HS rfl hg0 T.a23 ?_; clear HE; intro a HE
     refine o_eqA (b := decide (x.k = 3) && (decide (x.n = 1) && (x.s == [] && true))) HE rfl rfl rfl T.q23 rfl rfl ?_; clear HE; intro a HE
     refine rn 1 HE HS ?_; clear HE HS; intro a w HE HS
     apply hK; clear hK K
     refine cond HE rfl (fun h17r => ?_) (fun h17r => ?_)
     ·have h17 := nm h17r
      refine sr fun K hK => ?_
      refine rn 1 HE HS ?_; clear HE HS; intro a w HE HS
      apply hK; clear hK K
      refine rt hQ HE HS ?_
      have h3 := right3 h5 h8 h11 h14
      have hn1 : x.n = 1 := by have hz := h17r; simp at hz; exact hz.2.1
      show _ = _
      unfold printV
      rw [if_neg (by rw [h5]; decide)]
      repeat (first | rw [if_pos (by omega)] | rw [if_neg (by omega)])
      first | done | rfl
     ·have h17 := nm h17r
      refine wp_skip ?_
      refine hK2 _ _ ?_; clear hK2
      refine sr fun K hK => ?_
      refine rn 1 HE HS ?_; clear HE HS; intro a w HE HS
      apply hK; clear hK K
      refine rt hQ HE HS ?_
      have h3 := right3 h5 h8 h11 h14
      have hn1 : ¬ x.n = 1 := fun e => by have hz := h17r; rw [h3.1, h3.2, e] at hz; exact absurd hz (by decide)
      show _ = _
      unfold printV
      rw [if_neg (by rw [h5]; decide)]
      repeat (first | rw [if_pos (by omega)] | rw [if_neg (by omega)])
      first | done | rfl

/-! `incognito/incognitoref07.Print` -/
set_option maxRecDepth 100000 in
set_option maxHeartbeats 4000000 in
theorem c_Print7 (x : Val) (w0 : World) (G : Heap) (hG : Sub G w0) (hv : x.Wf):
  Calls Tryz.prog 32 #[.agg #[.int .i64 x.k, .int .i64 x.n, str x.s]] w0 (Ret w0 G (fun v _ => v = str (printV x))) := by
 refine enter Tryz.func32 rfl Tryz.ntmps32 rfl ?_
 intro Q hQ a HE
 have HS := St.start0 hG
 refine sr fun K hK => ?_
 refine o_bx3 HE rfl HS rfl ?_; clear HE HS; intro B1 w a HS HE
 refine rn 1 HE HS ?_; clear HE HS; intro a w HE HS
 apply hK; clear hK K
 refine wp_seq_k (fun K3 hK2 => ?_)
 refine sr fun K hK => ?_
 refine rn 1 HE HS ?_; clear HE HS; intro a w HE HS
 refine o_callP HE rfl HS rfl rfl T.g25 (c_Right7 x _ _ HS.sub (by first | assumption | exact hv | (constructor <;> first | assumption | (simp only [I64]; omega) | (simp; omega)))) ?_
 clear HE HS; rintro _ w a HS rfl HE
 refine rn 1 HE HS ?_; clear HE HS; intro a w HE HS
 apply hK; clear hK K
 refine cond HE rfl (fun h5r => ?_) (fun h5r => ?_)
 ·have h5 := nm h5r
  refine sr fun K hK => ?_
  refine rn 1 HE HS ?_; clear HE HS; intro a w HE HS
  apply hK; clear hK K
  refine rt hQ HE HS ?_
  show _ = _
  unfold printV
  rw [if_pos h5]
  rfl
 ·have h5 := nm h5r
  refine wp_skip ?_
  refine hK2 _ _ ?_; clear hK2
  refine wp_seq_k (fun K8 hK7 => ?_)
  refine sr fun K hK => ?_
  refine rn 3 HE HS ?_; clear HE HS; intro a w HE HS
  apply hK; clear hK K
  refine cond HE rfl (fun h10r => ?_) (fun h10r => ?_)
  ·have h10 := nm h10r
   refine sr fun K hK => ?_
   refine rn 2 HE HS ?_; clear HE HS; intro a w HE HS
   refine o_callP HE rfl HS rfl rfl T.g31 (c_Print6 x.n _ _ HS.sub (by first | assumption | exact hv.n | omega)) ?_
   clear HE HS; rintro _ w a HS rfl HE
   refine rn 1 HE HS ?_; clear HE HS; intro a w HE HS
   apply hK; clear hK K
   refine rt hQ HE HS ?_
   show _ = _
   unfold printV
   rw [if_neg (by rw [h5]; decide)]
   repeat (first | rw [if_pos (by omega)] | rw [if_neg (by omega)])
   first | done | rfl
  ·have h10 := nm h10r
   refine wp_skip ?_
   refine hK7 _ _ ?_; clear hK7
   refine wp_seq_k (fun K13 hK12 => ?_)
   refine sr fun K hK => ?_
   refine rn 3 HE HS ?_; clear HE HS; intro a w HE HS
   apply hK; clear hK K
   refine cond HE rfl (fun h15r => ?_) (fun h15r => ?_)
   ·have h15 := nm h15r
    refine sr fun K hK => ?_
    refine rn 3 HE HS ?_; clear HE HS; intro a w HE HS
    apply hK; clear hK K
    refine rt hQ HE HS ?_
    show _ = _
    unfold printV
    rw [if_neg (by rw [h5]; decide)]
    repeat (first | rw [if_pos (by omega)] | rw [if_neg (by omega)])
    first | done | rfl
   ·have h15 := nm h15r
    refine wp_skip ?_
    refine hK12 _ _ ?_; clear hK12
    refine wp_seq_k (fun K18 hK17 => ?_)
    refine sr fun K hK => ?_
    refine rn 4 HE HS ?_; clear HE HS; intro a w HE HS
    refine cutG 4 24 (.bool ((decide (x.k = 3)) && (decide (x.n = 1)))) HE HS ?_ ?_
    ·refine bsp HE (t := 20) rfl (fun hb19 => ?_) (fun hb19 => ?_)
     ·have hk20 := nm hb19
      refine rn 4 HE HS ?_; clear HE HS; intro a w HE HS
      exact ⟨HS, HE.cutT (by rw [hb19] <;> rfl)⟩
     ·skip
      refine rn 4 HE HS ?_; clear HE HS; intro a w HE HS
      exact ⟨HS, HE.cutT (by rw [hb19] <;> rfl)⟩
    clear HE HS; intro a w HE HS
    apply hK; clear hK K
    refine cond HE rfl (fun h22r => ?_) (fun h22r => ?_)
    ·have h22 := nm h22r
     refine sr fun K hK => ?_
     refine rn 1 HE HS ?_; clear HE HS; intro a w HE HS
     apply hK; clear hK K
     refine rt hQ HE HS ?_
     show _ = _
     unfold printV
     rw [if_neg (by rw [h5]; decide)]
     repeat (first | rw [if_pos (by omega)] | rw [if_neg (by omega)])
     first | done | rfl
    ·have h22 := nm h22r
     refine wp_skip ?_
     refine hK17 _ _ ?_; clear hK17
     refine wp_seq_k (fun K25 hK24 => ?_)
     refine sr fun K hK => ?_
     refine rn 3 HE HS ?_; clear HE HS; intro a w HE HS
     apply hK; clear hK K
     refine cond HE rfl (fun h27r => ?_) (fun h27r => ?_)
     ·have h27 := nm h27r
      refine sr fun K hK => ?_
      refine rn 1 HE HS ?_; clear HE HS; intro a w HE HS
      apply hK; clear hK K
      refine rt hQ HE HS ?_
      show _ = _
      unfold printV
      rw [if_neg (by rw [h5]; decide)]
      repeat (first | rw [if_pos (by omega)] | rw [if_neg (by omega)])
      first | done | rfl
     ·have h27 := nm h27r
      refine wp_skip ?_
      refine hK24 _ _ ?_; clear hK24
      refine sr fun K hK => ?_
      refine rn 1 HE HS ?_; clear HE HS; intro a w HE HS
      apply hK; clear hK K
      refine rt hQ HE HS ?_
      have hk0 := right0 h5 h10 h15 h27
      show _ = _
      unfold printV
      rw [if_neg (by rw [h5]; decide)]
      repeat (first | rw [if_pos (by omega)] | rw [if_neg (by omega)])
      first | done | rfl

/-! `incognito/line.Note` -/
set_option maxRecDepth 100000 in
set_option maxHeartbeats 4000000 in
theorem c_note (s : Bs) (w0 : World) (G : Heap) (hG : Sub G w0) (m8 : Int) (h8 : CellsAt G 5 0 [.int .i64 m8]) (hl : s.length ≤ 4294967280):
  Calls Tryz.prog 40 #[str s] w0 (Ret w0 G (fun v _ => v = .tuple #[str (noteS s).1, str (noteS s).2.1, .bool (noteS s).2.2.1, .int .i64 (noteS s).2.2.2])) := by
 refine enter Tryz.func40 rfl Tryz.ntmps40 rfl ?_
 intro Q hQ a HE
 have HS := St.start0 hG
 refine sr fun K hK => ?_
 refine rn 4 HE HS ?_; clear HE HS; intro a w HE HS
 apply hK; clear hK K
 refine sr fun K hK => ?_
 refine rn 1 HE HS ?_; clear HE HS; intro a w HE HS
 refine o_callP HE rfl HS rfl rfl T.g55 (g_cut s 59 _ _ HS.sub m8 h8 (by first | omega | (simp; done) | (simp; omega) | (have := cutA_len s 59; have := cutB_len s 59; omega))) ?_
 clear HE HS; rintro _ w a HS rfl HE
 refine rn 7 HE HS ?_; clear HE HS; intro a w HE HS
 apply hK; clear hK K
 refine wp_seq_k (fun K4 hK3 => ?_)
 refine sr fun K hK => ?_
 refine rn 2 HE HS ?_; clear HE HS; intro a w HE HS
 apply hK; clear hK K
 refine cond HE rfl (fun h6r => ?_) (fun h6r => ?_)
 ·have h6 := nm h6r
  refine sr fun K hK => ?_
  refine rn 5 HE HS ?_; clear HE HS; intro a w HE HS
  apply hK; clear hK K
  refine rt hQ HE HS ?_
  have e : noteS s = (s, [], false, 0) := by
   unfold noteS
   rw [if_pos (by simpa using h6)]
  show _ = _
  rw [e]
  rfl
 ·have h6 := nm h6r
  refine wp_skip ?_
  refine hK3 _ _ ?_; clear hK3
  refine sr fun K hK => ?_
  refine rn 1 HE HS ?_; clear HE HS; intro a w HE HS
  refine o_callP HE rfl HS rfl rfl T.g56 (calls_same HS.sub (Tryz.strings_CutSuffix ⟨List.toArray (cutA s 59)⟩ ⟨List.toArray [32]⟩ _ (by have := cutA_len s 59; simp [ByteArray.size]; omega))) ?_
  clear HE HS; rintro _ w a HS rfl HE
  refine rn 5 HE HS ?_; clear HE HS; intro a w HE HS
  apply hK; clear hK K
  refine wp_seq_k (fun K10 hK9 => ?_)
  refine sr fun K hK => ?_
  refine rn 3 HE HS ?_; clear HE HS; intro a w HE HS
  refine cutG 4 27 (.bool ((!(Lib.hasSuffix (cutA s 59) [32])) || (decide (100 < ((cutB s 59).length : Int))))) HE HS ?_ ?_
  ·refine bsp HE (t := 23) rfl (fun hb11 => ?_) (fun hb11 => ?_)
   ·skip
    refine rn 4 HE HS ?_; clear HE HS; intro a w HE HS
    exact ⟨HS, HE.cutT (by rw [hb11] <;> rfl)⟩
   ·have hk12 := nm hb11
    refine rn 4 HE HS ?_; clear HE HS; intro a w HE HS
    exact ⟨HS, HE.cutT (by rw [hb11] <;> rfl)⟩
  clear HE HS; intro a w HE HS
  refine rn 1 HE HS ?_; clear HE HS; intro a w HE HS
  refine cutG 3 31 (.bool (((!(Lib.hasSuffix (cutA s 59) [32])) || (decide (100 < ((cutB s 59).length : Int)))) || (decide (0 ≤ Lib.indexByte (cutB s 59) 10)))) HE HS ?_ ?_
  ·refine bsp HE (t := 28) rfl (fun hb13 => ?_) (fun hb13 => ?_)
   ·skip
    refine rn 3 HE HS ?_; clear HE HS; intro a w HE HS
    exact ⟨HS, HE.cutT (by rw [hb13] <;> rfl)⟩
   ·have hk14 := nm hb13
    refine rn 1 HE HS ?_; clear HE HS; intro a w HE HS
    refine op_on HE rfl rfl hb13 ?_
    refine o_callP HE rfl HS rfl rfl T.g43 (calls_same HS.sub (Tryz.strings_Contains_one ⟨List.toArray (cutB s 59)⟩ 10 _)) ?_
    clear HE HS; rintro _ w a HS rfl HE
    refine rn 1 HE HS ?_; clear HE HS; intro a w HE HS
    exact ⟨HS, HE.cutT (by rw [hb13] <;> rfl)⟩
  clear HE HS; intro a w HE HS
  apply hK; clear hK K
  refine cond HE rfl (fun h16r => ?_) (fun h16r => ?_)
  ·have h16 := nm h16r
   refine sr fun K hK => ?_
   refine rn 4 HE HS ?_; clear HE HS; intro a w HE HS
   apply hK; clear hK K
   refine rt hQ HE HS ?_
   have e : noteS s = ([], [], false, 2) := by
    unfold noteS
    rw [if_neg (by simpa using h6), if_pos (by simpa [or_assoc, and_assoc] using h16)]
   show _ = _
   rw [e]
   rfl
  ·have h16 := nm h16r
   refine wp_skip ?_
   refine hK9 _ _ ?_; clear hK9
   refine sr fun K hK => ?_
   refine rn 6 HE HS ?_; clear HE HS; intro a w HE HS
   apply hK; clear hK K
   refine rt hQ HE HS ?_
   have e : noteS s = (Lib.trimSuffix (cutA s 59) [32], cutB s 59, true, 0) := by
    unfold noteS
    rw [if_neg (by simpa using h6), if_neg (by simpa [or_assoc, and_assoc] using h16)]
   show _ = _
   rw [e]
   rfl

/-! `incognito/line.Words` -/
set_option maxRecDepth 100000 in
set_option maxHeartbeats 4000000 in
theorem c_words (s : Bs) (w0 : World) (G : Heap) (hG : Sub G w0) (m8 : Int) (h8 : CellsAt G 5 0 [.int .i64 m8]) (hl : s.length ≤ 4294967280):
  Calls Tryz.prog 41 #[str s] w0 (Ret w0 G (fun v G' => ∃ A c, v = .tuple #[.slice A (wordsS s).1.length c, .int .i64 (wordsS s).2] ∧ (wordsS s).1.length ≤ c ∧ Rd Knd.s G' A (wordsS s).1)) := by
 refine enter Tryz.func41 rfl Tryz.ntmps41 rfl ?_
 intro Q hQ a HE
 have HS := St.start0 hG
 refine sr fun K hK => ?_
 refine rn 2 HE HS ?_; clear HE HS; intro a w HE HS
 apply hK; clear hK K
 refine sr fun K hK => ?_
 refine rn 1 HE HS ?_; clear HE HS; intro a w HE HS
 refine o_call HE rfl HS rfl rfl T.g57 (g_split s 32 _ _ HS.sub m8 h8 (by first | omega | (simp; done) | (simp; omega) | (have := cutA_len s 59; have := cutB_len s 59; omega))) ?_
 clear HE HS; rintro _ G2 w a HS hle2 ⟨vA2, vc2, rfl, hcp2, hR2⟩ HE
 replace h8 := h8.le hle2
 refine rn 1 HE HS ?_; clear HE HS; intro a w HE HS
 apply hK; clear hK K
 refine wp_seq_k (fun K5 hK4 => ?_)
 refine sr fun K hK => ?_
 refine rn 1 HE HS ?_; clear HE HS; intro a w HE HS
 refine o_callP HE rfl HS rfl rfl T.g58 (g_contains (splitS 32 s) _ _ [] _ _ HS.sub hR2 (by have := splitS_len 32 s; omega)) ?_
 clear HE HS; rintro _ w a HS rfl HE
 apply hK; clear hK K
 refine cond HE rfl (fun h7r => ?_) (fun h7r => ?_)
 ·have h7 := nm h7r
  refine sr fun K hK => ?_
  refine rn 2 HE HS ?_; clear HE HS; intro a w HE HS
  apply hK; clear hK K
  refine rt hQ HE HS ?_
  have e : wordsS s = ([], 2) := by
   unfold wordsS
   rw [if_pos h7]
  rw [e]
  exact ⟨_, _, rfl, Nat.le_refl _, .nil⟩
 ·have h7 := nm h7r
  refine wp_skip ?_
  refine hK4 _ _ ?_; clear hK4
  refine sr fun K hK => ?_
  refine rn 3 HE HS ?_; clear HE HS; intro a w HE HS
  apply hK; clear hK K
  refine rt hQ HE HS ?_
  have e : wordsS s = (splitS 32 s, 0) := by
   unfold wordsS
   rw [if_neg h7]
  rw [e]
  exact ⟨_, _, rfl, by assumption, by assumption⟩

/-! `incognito/line.Join` -/
set_option maxRecDepth 100000 in
set_option maxHeartbeats 4000000 in
theorem c_join8 (xs : List Bs) (A : Option Addr) (c : Nat) (w0 : World) (G : Heap) (hG : Sub G w0) (hR : Rd Knd.s G A xs) (hc : xs.length ≤ c) (hl : xs.length ≤ 140737488355328) (hj : (Lib.join xs [32]).length ≤ 140737488355328):
  Calls Tryz.prog 30 #[.slice A xs.length c] w0 (Ret w0 G (fun v _ => v = str (Lib.join xs [32]))) := by
 refine enter Tryz.func30 rfl Tryz.ntmps30 rfl ?_
 intro Q hQ a HE
 have HS := St.start0 hG
 refine sr fun K hK => ?_
 refine rn 1 HE HS ?_; clear HE HS; intro a w HE HS
 apply hK; clear hK K
 refine sr fun K hK => ?_
 refine rn 1 HE HS ?_; clear HE HS; intro a w HE HS
 refine o_callP HE rfl HS rfl rfl T.g51 (g_join xs _ _ _ _ HS.sub hR (by assumption) (by omega) (by omega)) ?_
 clear HE HS; rintro _ w a HS rfl HE
 refine rn 1 HE HS ?_; clear HE HS; intro a w HE HS
 apply hK; clear hK K
 refine rt hQ HE HS ?_
 exact rfl
end Go.Proofs.YtiinipcmghhacaaGreatDoor.T10
