/- Numbers, values, rules, domains: walked. -/
import Derived.Test.YtngoaapgdfohjaaDoorX40
import Derived.Test.YtngoaapgdfohjaaDoorShelf
import Derived.Test.YtngoaapgdfohjaaDoorN1
import Derived.Test.YtngoaapgdfohjaaDoorN2
import Derived.Test.YtngoaapgdfohjaaDoorN4
import Derived.Test.YtngoaapgdfohjaaDoorN6
import Derived.Test.YtngoaapgdfohjaaDoorProg
set_option linter.unusedVariables false
set_option linter.unusedSimpArgs false
namespace Go.Proofs.YtngoaapgdfohjaaDoor.T27
open Go Go.Proofs.YtngoaapgdfohjaaDoor.X
instance : UN Tryd.prog 9 .string := ⟨Tryd.underlying9⟩
instance : UN Tryd.prog 92 (.slice 3) := ⟨Tryd.underlying92⟩
instance : LZ Tryd.prog 30 [(0, .int .i64 0), (1, .int .i64 0)] := ⟨⟨.agg #[.int .i64 0, .int .i64 0], by kernel_rfl, ⟨rfl, rfl, trivial⟩⟩⟩
theorem T.a30 : aggSz Tryd.prog 30 = some 2 := by kernel_rfl
instance : AG Tryd.prog 30 2 := ⟨T.a30⟩
theorem T.a32 : aggSz Tryd.prog 32 = some 3 := by kernel_rfl
instance : AG Tryd.prog 32 3 := ⟨T.a32⟩
theorem T.a51 : aggSz Tryd.prog 51 = some 10 := by kernel_rfl
instance : AG Tryd.prog 51 10 := ⟨T.a51⟩
theorem T.f30_0 : fieldOff Tryd.prog 30 0 = some 0 := by kernel_rfl
instance : FO Tryd.prog 30 0 0 := ⟨T.f30_0⟩
theorem T.f30_1 : fieldOff Tryd.prog 30 1 = some 1 := by kernel_rfl
instance : FO Tryd.prog 30 1 1 := ⟨T.f30_1⟩
theorem T.f32_0 : fieldOff Tryd.prog 32 0 = some 0 := by kernel_rfl
instance : FO Tryd.prog 32 0 0 := ⟨T.f32_0⟩
theorem T.f32_1 : fieldOff Tryd.prog 32 1 = some 1 := by kernel_rfl
instance : FO Tryd.prog 32 1 1 := ⟨T.f32_1⟩
theorem T.f32_2 : fieldOff Tryd.prog 32 2 = some 2 := by kernel_rfl
instance : FO Tryd.prog 32 2 2 := ⟨T.f32_2⟩
theorem T.f53_0 : fieldOff Tryd.prog 53 0 = some 0 := by kernel_rfl
instance : FO Tryd.prog 53 0 0 := ⟨T.f53_0⟩
theorem T.f53_1 : fieldOff Tryd.prog 53 1 = some 10 := by kernel_rfl
instance : FO Tryd.prog 53 1 10 := ⟨T.f53_1⟩
theorem T.f53_2 : fieldOff Tryd.prog 53 2 = some 11 := by kernel_rfl
instance : FO Tryd.prog 53 2 11 := ⟨T.f53_2⟩
theorem T.g19 : goFn Tryd.prog 19 = true := by kernel_rfl
theorem T.g27 : goFn Tryd.prog 27 = true := by kernel_rfl
theorem T.g28 : goFn Tryd.prog 28 = true := by kernel_rfl
theorem T.g29 : goFn Tryd.prog 29 = true := by kernel_rfl
theorem T.g35 : goFn Tryd.prog 35 = true := by kernel_rfl
theorem T.g36 : goFn Tryd.prog 36 = true := by kernel_rfl
theorem T.g37 : goFn Tryd.prog 37 = true := by kernel_rfl
theorem T.g38 : goFn Tryd.prog 38 = true := by kernel_rfl
theorem T.g39 : goFn Tryd.prog 39 = true := by kernel_rfl
theorem T.g47 : goFn Tryd.prog 47 = true := by kernel_rfl
theorem T.g48 : goFn Tryd.prog 48 = true := by kernel_rfl
theorem T.g49 : goFn Tryd.prog 49 = true := by kernel_rfl
theorem T.l92 : slOf Tryd.prog 92 = some (3, 1) := by kernel_rfl
theorem T.mix : Tryd.prog.follows .mixedOrders = true := by kernel_rfl
theorem T.q32 : flatT Tryd.prog 32 = some [.int .i64, .int .i64, .str] := by kernel_rfl
theorem T.r51 : arrOf Tryd.prog 51 = some (5, 2) := by kernel_rfl
theorem T.s2 : scal Tryd.prog 2 = true := by kernel_rfl
instance : SC Tryd.prog 2 := ⟨T.s2⟩
theorem T.s3 : scal Tryd.prog 3 = true := by kernel_rfl
instance : SC Tryd.prog 3 := ⟨T.s3⟩
theorem T.s9 : scal Tryd.prog 9 = true := by kernel_rfl
instance : SC Tryd.prog 9 := ⟨T.s9⟩

def ruledB (d : Int) (r : Rul) : Bool := (decide (r.way = 2) && (decide (1 ≤ r.size) && decide (r.size ≤ 16))) || ((decide (r.way = 0) || decide (r.way = 1)) && decide (r.size = 0)) || (decide (r.way = 3) && (decide (d = 4) && decide (r.size = 0)))
def rightB (p : Pol) : Bool :=
  ruledB 0 p.r0 && (ruledB 1 p.r1 && (ruledB 2 p.r2 && (ruledB 3 p.r3 && (ruledB 4 p.r4 && ((decide (p.time = 0) || decide (p.time = 3)) && (decide (p.note = 0) || decide (p.note = 4)))))))
def isM (m : Int) (e : Evt) : Bool := decide (e.type = 1) && decide (e.model = m)
def hasM (h : List Evt) (m : Int) : Bool := h.any (isM m)
theorem hasM_take {h : List Evt} {m : Int} {i : Nat} (hi : i < h.length) : hasM (h.take (i + 1)) m = (hasM (h.take i) m || isM m h[i]) := by
  unfold hasM
  rw [List.take_add_one, List.any_append, List.getElem?_eq_getElem hi]
  simp
theorem hasM_of {h : List Evt} {m : Int} {i : Nat} (hi : i < h.length) (he : isM m h[i] = true) : hasM h m = true := by
  unfold hasM
  rw [List.any_eq_true]
  exact ⟨h[i], List.getElem_mem hi, he⟩
def metL (h : List Evt) : List Value := (List.range 11).map fun (j : Nat) => .bool (decide (1 ≤ j) && hasM h (j : Int))
theorem metL_len (h : List Evt) : (metL h).length = 11 := by simp [metL]
theorem metL_snoc {h : List Evt} {i : Nat} {x : Evt} (hi : i < h.length) (hx : h[i] = x) (hc : (x.type = 1 ∧ 1 ≤ x.model) ∧ x.model < 11) : (metL (h.take i)).set x.model.toNat (.bool true) = metL (h.take (i + 1)) := by
  subst hx
  obtain ⟨⟨h1, h2⟩, h3⟩ := hc
  apply List.ext_getElem
  · simp [metL]
  · intro j hj1 hj2
    simp only [metL, List.length_set, List.length_map, List.length_range] at hj1
    rw [List.getElem_set]
    simp only [metL, List.getElem_map, List.getElem_range]
    rw [hasM_take hi]
    split
    · rename_i e
      subst e
      have h0 : isM (h[i].model.toNat : Int) h[i] = true := by simp only [isM, h1, decide_true, Bool.true_and, decide_eq_true_eq]; omega
      have h4 : decide (1 ≤ h[i].model.toNat) = true := by simp only [decide_eq_true_eq]; omega
      rw [h0, h4, Bool.or_true]; rfl
    · rename_i e
      have h0 : isM (j : Int) h[i] = false := by simp only [isM, h1, decide_true, Bool.true_and, decide_eq_false_iff_not]; omega
      rw [h0, Bool.or_false]
theorem metL_skip {h : List Evt} {i : Nat} {x : Evt} (hi : i < h.length) (hx : h[i] = x) (hn : (¬ x.type = 1 ∨ ¬ 1 ≤ x.model) ∨ ¬ x.model < 11) : metL (h.take i) = metL (h.take (i + 1)) := by
  subst hx
  apply List.ext_getElem
  · simp [metL]
  · intro j hj1 hj2
    simp only [metL, List.length_map, List.length_range] at hj1
    simp only [metL, List.getElem_map, List.getElem_range]
    rw [hasM_take hi]
    by_cases hj : 1 ≤ j
    · have h0 : isM (j : Int) h[i] = false := by
        simp only [isM, Bool.and_eq_false_iff, decide_eq_false_iff_not]
        by_cases h1 : h[i].type = 1
        · right; omega
        · exact .inl h1
      rw [h0, Bool.or_false]
    · have : decide (1 ≤ j) = false := by simp [hj]
      rw [this]; rfl
theorem metL_one {h : List Evt} : ∀ v ∈ metL h, one v = true := by
  intro v hv
  simp only [metL, List.mem_map] at hv
  obtain ⟨j, _, rfl⟩ := hv
  rfl
theorem metL_9 {h : List Evt} : (metL h)[9]? = some (.bool (hasM h 9)) := by simp [metL]
theorem metL_10 {h : List Evt} : (metL h)[10]? = some (.bool (hasM h 10)) := by simp [metL]
theorem kEvt_mk {G : Heap} (x : Evt) {A1 c1 A2 c2} (h1 : x.args.length ≤ c1) (h2 : Rd kVal G A1 x.args) (h3 : x.out.length ≤ c2) (h4 : Rd kVal G A2 x.out) : kEvt.R G x (evtCells x A1 c1 A2 c2) := ⟨A1, c1, A2, c2, rfl, h1, h2, h3, h4⟩
theorem metL_at {h : List Evt} {j : Nat} (hj : j < 11) : (metL h)[j]? = some (.bool (decide (1 ≤ j) && hasM h (j : Int))) := by simp [metL, hj]
def modelsUp (h : List Evt) (i : Nat) : List Int := ((List.range i).filter fun (j : Nat) => decide (1 ≤ j) && hasM h (j : Int)).map fun (j : Nat) => (j : Int)
theorem modelsUp_in {h : List Evt} {i : Nat} (hc : (decide (1 ≤ i) && hasM h (i : Int)) = true) : modelsUp h i ++ [(i : Int)] = modelsUp h (i + 1) := by
  simp only [modelsUp, List.range_succ, List.filter_append, List.map_append]
  simp [List.filter_cons, hc]
theorem modelsUp_out {h : List Evt} {i : Nat} (hc : (decide (1 ≤ i) && hasM h (i : Int)) = false) : modelsUp h i = modelsUp h (i + 1) := by
  simp only [modelsUp, List.range_succ, List.filter_append, List.map_append]
  rw [List.filter_cons, if_neg (by rw [hc]; decide)]
  simp
theorem modelsUp_step {h : List Evt} {i : Nat} : (bif decide (1 ≤ i) && hasM h (i : Int) then modelsUp h i ++ [(i : Int)] else modelsUp h i) = modelsUp h (i + 1) := by
  cases hc : (decide (1 ≤ i) && hasM h (i : Int)) with
  | true => exact modelsUp_in hc
  | false => exact modelsUp_out hc
theorem modelsUp_step1 {h : List Evt} {i : Nat} (h1 : 1 ≤ i) : (bif hasM h (i : Int) then modelsUp h i ++ [(i : Int)] else modelsUp h i) = modelsUp h (i + 1) := by
  rw [← modelsUp_step (i := i), decide_eq_true h1, Bool.true_and]
theorem modelsUp_len (h : List Evt) (i : Nat) : (modelsUp h i).length ≤ i := by
  simp only [modelsUp, List.length_map]
  have := List.length_filter_le (fun (j : Nat) => decide (1 ≤ j) && hasM h (j : Int)) (List.range i)
  simpa using this
theorem take_snoc_eq {α : Type} {a b : List α} {i : Nat} (h : a.take i = b.take i) (ha : i < a.length) (hb : i < b.length) (e : a[i] = b[i]) : a.take (i + 1) = b.take (i + 1) := by
  rw [List.take_add_one, List.take_add_one, h, List.getElem?_eq_getElem ha, List.getElem?_eq_getElem hb, e]
theorem hasM_append (a b : List Evt) (m : Int) : hasM (a ++ b) m = (hasM a m || hasM b m) := List.any_append
def sortedB (h : List Evt) : Bool := hasM h 9 || hasM h 10
def admitsB (p : Pol) (h : List Evt) : Bool := rightB p && !((decide (p.r4.way = 1) || decide (p.r4.way = 2)) && sortedB h)

def sizeS (s : Bs) (most : Int) : Except Int Int := if digitsB s = true then (if (dv s : Int) ≤ most then .ok (dv s) else .error 3) else .error 2
def countS (s : Bs) (most : Int) : Except Int Int := match sizeS s 9223372036854775807 with
  | .error e => .error e
  | .ok n => if most < 0 ∨ most < n then .error 3 else .ok n
def parseS (s : Bs) : Except Int Int :=
  if s = [] ∨ bt s 0 ≠ 45 then sizeS s 9223372036854775807
  else match sizeS (s.drop 1) 9223372036854775808 with
    | .error e => .error e
    | .ok n => if n = 0 then .error 2 else .ok (-n)
theorem dig_of {s : Bs} {i : Nat} (hi : i < s.length) (h1 : 48 ≤ bt s i) (h2 : bt s i ≤ 57) : digB s[i] = true := by
  rw [bt_nat hi] at h1 h2
  simp only [digB, Bool.and_eq_true, decide_eq_true_eq]
  omega
theorem dig_at {s : Bs} (h : s.all digB = true) {i : Nat} (hi : i < s.length) : 48 ≤ bt s i ∧ bt s i ≤ 57 := by
  have := List.all_eq_true.1 h _ (List.getElem_mem hi)
  simp only [digB, Bool.and_eq_true, decide_eq_true_eq] at this
  rw [bt_nat hi]
  omega
theorem digits_all {s : Bs} (h : digitsB s = true) : s.all digB = true := by simp only [digitsB, Bool.and_eq_true] at h; exact h.1
theorem digits_pos {s : Bs} (h : digitsB s = true) : 0 < s.length := by simp only [digitsB, Bool.and_eq_true, decide_eq_true_eq] at h; exact h.2.1
theorem digits_no {s : Bs} {i : Nat} (hi : i < s.length) (h : bt s i < 48 ∨ 57 < bt s i) : digitsB s = false := by
  cases hd : digitsB s with
  | false => rfl
  | true => have := dig_at (digits_all hd) hi; omega
theorem digits_eq {s : Bs} (h : s.all digB = true) : (decide (0 < (s.length : Int)) && (decide ((s.length : Int) = 1) || !decide (bt s 0 = 48))) = digitsB s := by
  unfold digitsB
  rw [h, Bool.true_and]
  have e1 : decide (0 < (s.length : Int)) = decide (0 < s.length) := decide_eq_decide.2 (by omega)
  have e2 : decide ((s.length : Int) = 1) = decide (s.length = 1) := decide_eq_decide.2 (by omega)
  rw [e1, e2]
theorem digits_of {s : Bs} (h : s.all digB = true) (h1 : ¬ s = []) (h2 : ¬ bt s 0 = 48 ∨ ¬ 1 < (s.length : Int)) : digitsB s = true := by
  rw [← digits_eq h]
  have h0 : 0 < s.length := List.length_pos_iff.2 h1
  simp only [Bool.and_eq_true, Bool.or_eq_true, decide_eq_true_eq, Bool.not_eq_true', decide_eq_false_iff_not]
  refine ⟨by omega, ?_⟩
  rcases h2 with h2 | h2
  · exact .inr h2
  · exact .inl (by omega)
theorem size_no {s : Bs} {most : Int} (h : digitsB s = false) : sizeS s most = .error 2 := by simp [sizeS, h]
theorem size_e2a {s : Bs} {most : Int} (h : s = [] ∨ bt s 0 = 48 ∧ 1 < (s.length : Int)) : sizeS s most = .error 2 := by
  refine size_no ?_
  cases hd : digitsB s with
  | false => rfl
  | true =>
    have h0 := digits_pos hd
    have h1 := digits_all hd
    rw [← digits_eq h1] at hd
    simp only [Bool.and_eq_true, Bool.or_eq_true, decide_eq_true_eq, Bool.not_eq_true', decide_eq_false_iff_not] at hd
    rcases h with rfl | h
    · simp at h0
    · omega
theorem size_e2b {s : Bs} {most : Int} {i : Nat} (hi : i < s.length) (h : bt s i < 48 ∨ 57 < bt s i) : sizeS s most = .error 2 := size_no (digits_no hi h)
theorem dv_step {s : Bs} (h : s.all digB = true) {j : Nat} (hj : j < s.length) : ((dv (s.take (j + 1)) : Nat) : Int) = (dv (s.take j) : Int) * 10 + (bt s j - 48) := by
  have := dig_at h hj
  rw [bt_nat hj] at this ⊢
  rw [dv_take hj]
  omega
theorem size_e3 {s : Bs} {most : Int} (hd : digitsB s = true) {j : Nat} (hj : j < s.length) (h : most < (dv (s.take j) : Int) * 10 + (bt s j - 48)) : sizeS s most = .error 3 := by
  rw [← dv_step (digits_all hd) hj] at h
  have := dv_mono s (j + 1)
  unfold sizeS
  rw [if_pos hd, if_neg (by omega)]
theorem size_ok {s : Bs} {most : Int} (hd : digitsB s = true) (h : (dv s : Int) ≤ most) : sizeS s most = .ok (dv s : Int) := by
  unfold sizeS
  rw [if_pos hd, if_pos h]
theorem size_bound {s : Bs} {most n : Int} (h : sizeS s most = .ok n) : 0 ≤ n ∧ n ≤ most := by
  unfold sizeS at h
  split at h
  · split at h
    · cases h; omega
    · cases h
  · cases h
def maxP : Bs := [57, 50, 50, 51, 51, 55, 50, 48, 51, 54, 56, 53, 52, 55, 55, 53, 56, 48, 55]
def maxN : Bs := [57, 50, 50, 51, 51, 55, 50, 48, 51, 54, 56, 53, 52, 55, 55, 53, 56, 48, 56]
theorem least_p {s : Bs} (h : digitsB s = true) : leastB s maxP = decide ((dv s : Int) ≤ 9223372036854775807) := by
  rw [least_iff h (by decide), show dv maxP = 9223372036854775807 by decide]
  exact decide_eq_decide.2 (by omega)
theorem least_n {s : Bs} (h : digitsB s = true) : leastB s maxN = decide ((dv s : Int) ≤ 9223372036854775808) := by
  rw [least_iff h (by decide), show dv maxN = 9223372036854775808 by decide]
  exact decide_eq_decide.2 (by omega)
theorem dv_zero {s : Bs} (hd : digitsB s = true) (hn : ¬ s = [48]) : ¬ (dv s : Int) = 0 := by
  intro e
  have h1 := digits_all hd
  have h0 := digits_pos hd
  rcases Nat.lt_or_ge 1 s.length with h | h
  · have := dv_ge hd h
    have := Nat.pow_pos (a := 10) (n := s.length - 1) (by decide)
    omega
  · match s, h0, h with
    | [b], _, _ =>
      have h2 := dig_at h1 (i := 0) (by simp)
      have h3 : bt [b] ((0 : Nat) : Int) = (b.toNat : Int) := rfl
      rw [h3] at h2
      have h4 : dv [b] = 0 * 10 + (b.toNat - 48) := rfl
      have h5 : b.toNat = 48 := by omega
      exact hn (by rw [show b = 48 from UInt8.toNat_inj.1 h5])
theorem size_big {s : Bs} {most : Int} (hd : digitsB s = true) (h : ¬ (dv s : Int) ≤ most) : sizeS s most = .error 3 := by
  unfold sizeS
  rw [if_pos hd, if_neg h]
theorem parse_neg {s : Bs} (h0 : 0 < (s.length : Int) ∧ bt s 0 = 45) : parseS s = match sizeS (s.drop 1) 9223372036854775808 with
    | .error e => .error e
    | .ok n => if n = 0 then .error 2 else .ok (-n) := by
  unfold parseS
  rw [if_neg]
  rintro (h | h)
  · subst h; simp at h0
  · exact h h0.2
theorem parse_pos {s : Bs} (h0 : ¬ 0 < (s.length : Int) ∨ ¬ bt s 0 = 45) : parseS s = sizeS s 9223372036854775807 := by
  unfold parseS
  rw [if_pos]
  rcases h0 with h | h
  · left; exact List.eq_nil_of_length_eq_zero (by omega)
  · exact .inr h
theorem parse_n2 {s : Bs} (h0 : 0 < (s.length : Int) ∧ bt s 0 = 45) (h : digitsB (s.drop 1) = false ∨ s.drop 1 = [48]) : parseS s = .error 2 := by
  rw [parse_neg h0]
  rcases h with h | h
  · rw [size_no h]
  · rw [h]; rfl
theorem parse_n3 {s : Bs} (h0 : 0 < (s.length : Int) ∧ bt s 0 = 45) (hd : digitsB (s.drop 1) = true) (hl : leastB (s.drop 1) maxN = false) : parseS s = .error 3 := by
  rw [parse_neg h0]
  rw [least_n hd, decide_eq_false_iff_not] at hl
  rw [size_big hd hl]
theorem parse_nok {s : Bs} (h0 : 0 < (s.length : Int) ∧ bt s 0 = 45) (hd : digitsB (s.drop 1) = true) (hn : ¬ s.drop 1 = [48]) (hb : (dv (s.drop 1) : Int) ≤ 9223372036854775808) : parseS s = .ok (-(dv (s.drop 1) : Int)) := by
  rw [parse_neg h0, size_ok hd hb]
  exact if_neg (dv_zero hd hn)
theorem parse_p3 {s : Bs} (h0 : ¬ 0 < (s.length : Int) ∨ ¬ bt s 0 = 45) (hd : digitsB s = true) (hl : leastB s maxP = false) : parseS s = .error 3 := by
  rw [least_p hd, decide_eq_false_iff_not] at hl
  rw [parse_pos h0, size_big hd hl]
theorem count_digits {s : Bs} {most : Int} (hd : digitsB s = true) : countS s most = if ¬ erv (parseS s) = 0 ∨ most < okv (parseS s) then .error 3 else .ok (okv (parseS s)) := by
  have h1 := dig_at (digits_all hd) (i := 0) (digits_pos hd)
  have e : parseS s = sizeS s 9223372036854775807 := parse_pos (.inr (by
    have : bt s ((0 : Nat) : Int) = bt s 0 := rfl
    omega))
  unfold countS
  rw [e]
  by_cases hb : (dv s : Int) ≤ 9223372036854775807
  · rw [size_ok hd hb]
    show (if most < 0 ∨ most < (dv s : Int) then Except.error 3 else Except.ok (dv s : Int)) = if ¬ (0 : Int) = 0 ∨ most < (dv s : Int) then Except.error 3 else Except.ok (dv s : Int)
    by_cases h : most < (dv s : Int)
    · rw [if_pos (.inr h), if_pos (.inr h)]
    · rw [if_neg (by omega), if_neg (by omega)]
  · rw [size_big hd hb]
    show Except.error 3 = if ¬ (3 : Int) = 0 ∨ most < 0 then Except.error 3 else Except.ok 0
    rw [if_pos (.inl (by decide))]
theorem drop_len {s : Bs} (h : 0 < (s.length : Int)) : (s.drop 1).length + 1 = s.length := by simp; omega

def lowB (c : Int) : Bool := decide (97 ≤ c) && decide (c ≤ 122)
def letterB (c : Int) (first : Bool) : Bool := lowB c || (!first && (decide (c = 95) || (decide (48 ≤ c) && decide (c ≤ 57))))
theorem letter_eq (c : Int) : (((decide (97 ≤ c) && decide (c ≤ 122)) || (decide (48 ≤ c) && decide (c ≤ 57))) || decide (c = 95)) = letterB c false := by
  unfold letterB lowB
  cases decide (97 ≤ c) <;> cases decide (c ≤ 122) <;> cases decide (48 ≤ c) <;> cases decide (c ≤ 57) <;> cases decide (c = 95) <;> rfl
def isWordB (s : Bs) : Bool := (decide (1 ≤ s.length) && decide (s.length ≤ 40)) && (lowB (bt s 0) && s.all fun c => letterB (c.toNat : Int) false)
theorem all_snoc {α : Type} {p : α → Bool} {s : List α} {i : Nat} (h : i < s.length) : (s.take (i + 1)).all p = ((s.take i).all p && p s[i]) := by
  rw [List.take_add_one, List.getElem?_eq_getElem h, List.all_append]
  simp
theorem all_not {α : Type} {p : α → Bool} {s : List α} {i : Nat} (h : i < s.length) (hp : p s[i] = false) : s.all p = false := by
  cases ha : s.all p with
  | false => rfl
  | true => rw [List.all_eq_true.1 ha _ (List.getElem_mem h)] at hp; cases hp
def wordC (c : UInt8) : Bool := letterB (c.toNat : Int) false
theorem word_def (s : Bs) : isWordB s = ((decide (1 ≤ s.length) && decide (s.length ≤ 40)) && (lowB (bt s 0) && s.all wordC)) := rfl
theorem word_ref_no {s : Bs} {i : Nat} (hi : i < s.length) (h : letterB (bt s (i : Int)) (decide ((i : Int) = 0)) = false) : isWordB s = false := by
  by_cases h0 : i = 0
  · subst h0
    have e : bt s ((0 : Nat) : Int) = bt s 0 := rfl
    rw [e] at h
    have hl : lowB (bt s 0) = false := by
      simp only [letterB, Bool.or_eq_false_iff] at h
      exact h.1
    rw [word_def, hl]; simp
  · have e : decide ((i : Int) = 0) = false := by simp; omega
    rw [e] at h
    rw [word_def, all_not hi (by unfold wordC; rw [← bt_nat hi]; exact h)]; simp
theorem word_ref {s : Bs} (ha : ∀ j, j < s.length → letterB (bt s (j : Int)) (decide ((j : Int) = 0)) = true) : (decide (1 ≤ (s.length : Int)) && decide ((s.length : Int) ≤ 40)) = isWordB s := by
  rw [word_def, show decide (1 ≤ (s.length : Int)) = decide (1 ≤ s.length) from decide_eq_decide.2 (by omega), show decide ((s.length : Int) ≤ 40) = decide (s.length ≤ 40) from decide_eq_decide.2 (by omega)]
  by_cases h0 : 1 ≤ s.length
  · have h1 : lowB (bt s 0) = true := by
      have := ha 0 (by omega)
      have e : bt s ((0 : Nat) : Int) = bt s 0 := rfl
      rw [e] at this
      simpa [letterB] using this
    have h2 : s.all wordC = true := by
      rw [List.all_eq_true]
      intro x hx
      obtain ⟨j, hj, rfl⟩ := List.mem_iff_getElem.1 hx
      have h3 := ha j hj
      rw [bt_nat hj] at h3
      unfold wordC
      by_cases e : j = 0
      · subst e
        simp only [letterB] at h3 ⊢
        simp at h3 ⊢
        exact .inl h3
      · have e2 : decide ((j : Int) = 0) = false := by simp; omega
        rw [e2] at h3
        exact h3
    rw [h1, h2]; simp
  · rw [decide_eq_false h0]; simp
def parseV (s : Bs) : Val × Int :=
  if s = [126] then (⟨0, 0, []⟩, 0) else if s = [84] then (⟨3, 1, []⟩, 0) else if s = [70] then (⟨3, 0, []⟩, 0)
  else if isWordB s = true then (⟨2, 0, s⟩, 0) else if ¬ erv (parseS s) = 0 then (⟨0, 0, []⟩, erv (parseS s)) else (⟨1, okv (parseS s), []⟩, 0)
theorem wordC_bt {s : Bs} {i : Nat} (h : i < s.length) : wordC s[i] = letterB (bt s i) false := by unfold wordC; rw [bt_nat h]
theorem word_len {s : Bs} (h : s = [] ∨ 40 < (s.length : Int)) : isWordB s = false := by
  rw [word_def]
  have : (decide (1 ≤ s.length) && decide (s.length ≤ 40)) = false := by
    simp only [Bool.and_eq_false_iff, decide_eq_false_iff_not]
    rcases h with rfl | h
    · left; simp
    · right; omega
  rw [this]; rfl
theorem word_first {s : Bs} (h : bt s 0 < 97 ∨ 122 < bt s 0) : isWordB s = false := by
  rw [word_def]
  have : lowB (bt s 0) = false := by simp only [lowB, Bool.and_eq_false_iff, decide_eq_false_iff_not]; omega
  rw [this]; simp
theorem word_at {s : Bs} {i : Nat} (hi : i < s.length) (h : letterB (bt s i) false = false) : isWordB s = false := by
  rw [word_def, all_not hi (by rw [wordC_bt hi]; exact h)]; simp
theorem word_yes {s : Bs} (h0 : ¬ s = []) (h1 : ¬ 40 < (s.length : Int)) (h2 : ¬ bt s 0 < 97) (h3 : ¬ 122 < bt s 0) (h4 : s.all wordC = true) : isWordB s = true := by
  have := List.length_pos_iff.2 h0
  rw [word_def, h4]
  simp only [lowB, Bool.and_true, Bool.and_eq_true, decide_eq_true_eq]
  omega
theorem ok_size {s : Bs} {most n : Int} (h : sizeS s most = .ok n) : digitsB s = true ∧ n = (dv s : Int) := by
  unfold sizeS at h
  split at h
  · rename_i hd
    split at h
    · cases h; exact ⟨hd, rfl⟩
    · cases h
  · cases h
theorem size_err {s : Bs} {most e : Int} (h : sizeS s most = .error e) : ¬ e = 0 := by
  unfold sizeS at h
  split at h
  · split at h
    · cases h
    · cases h; decide
  · cases h; decide
theorem parse_err {s : Bs} {e : Int} (h : parseS s = .error e) : ¬ e = 0 := by
  unfold parseS at h
  split at h
  · exact size_err h
  · split at h
    · rename_i hm; cases h; exact size_err hm
    · split at h
      · cases h; decide
      · cases h
theorem bt0 {b : UInt8} {s : Bs} : bt (b :: s) 0 = (b.toNat : Int) := rfl
theorem dd_not45 (k : Nat) : ¬ bt (dd k) 0 = 45 := by
  have h := dig_at (dd_all k) (i := 0) (dd_pos k)
  have e : bt (dd k) ((0 : Nat) : Int) = bt (dd k) 0 := rfl
  rw [e] at h
  omega
theorem parse_itoa {n : Int} (hn : -9223372036854775808 ≤ n ∧ n ≤ 9223372036854775807) : parseS (Lib.itoa n) = .ok n := by
  by_cases h : 0 ≤ n
  · rw [itoa_nn h, parse_pos (.inr (dd_not45 _)), size_ok (dd_digits _) (by rw [dd_dv]; omega), dd_dv]
    rw [show ((n.toNat : Nat) : Int) = n by omega]
  · rw [itoa_ng (by omega)]
    rw [parse_nok (s := 45 :: dd n.natAbs) ⟨by simp, rfl⟩ (dd_digits _) (fun e => by
      have e1 : dd n.natAbs = [48] := e
      have := dd_dv n.natAbs
      rw [e1] at this
      have e2 : dv [48] = 0 := rfl
      omega) (by show (dv (dd n.natAbs) : Int) ≤ _; rw [dd_dv]; omega)]
    show Except.ok (-(dv (dd n.natAbs) : Int)) = _
    rw [dd_dv]
    congr 1
    omega
theorem itoa_parse {s : Bs} {n : Int} (h : parseS s = .ok n) : Lib.itoa n = s := by
  unfold parseS at h
  split at h
  · obtain ⟨hd, rfl⟩ := ok_size h
    rw [itoa_nn (by omega)]
    exact dd_of hd
  · rename_i hc
    simp only [not_or, ne_eq, Classical.not_not] at hc
    split at h
    · cases h
    · rename_i m hm
      split at h
      · cases h
      · rename_i h0
        cases h
        obtain ⟨hd, rfl⟩ := ok_size hm
        rw [itoa_ng (by omega), show (-(dv (s.drop 1) : Int)).natAbs = dv (s.drop 1) by omega, dd_of hd]
        match s, hc with
        | b :: r, hc =>
          have e : b = 45 := UInt8.toNat_inj.1 (by have := hc.2; rw [bt0] at this; simp; omega)
          rw [e]; rfl
theorem parse_range {s : Bs} {n : Int} (h : parseS s = .ok n) : -9223372036854775808 ≤ n ∧ n ≤ 9223372036854775807 := by
  unfold parseS at h
  split at h
  · have := size_bound h; omega
  · split at h
    · cases h
    · rename_i hm
      split at h
      · cases h
      · cases h
        have := size_bound hm
        omega
theorem okv_range {s : Bs} : I64 (okv (parseS s)) := by
  cases hp : parseS s with
  | error e => exact (by decide : I64 0)
  | ok n => exact parse_range hp
theorem itoa_inj {a b : Int} (ha : I64 a) (hb : I64 b) (h : Lib.itoa a = Lib.itoa b) : a = b := by
  have h1 := parse_itoa ha
  rw [h, parse_itoa hb] at h1
  cases h1; rfl
theorem itoa_eq {a b : Int} (ha : I64 a) (hb : I64 b) : (Lib.itoa a == Lib.itoa b) = decide (a = b) := by
  by_cases h : a = b
  · subst h; simp
  · rw [decide_eq_false h]
    simp only [beq_eq_false_iff_ne, ne_eq]
    exact fun e => h (itoa_inj ha hb e)
theorem itoa_len {a b : Int} (ha : ¬ a < 0) (hb : ¬ b < 0) (h : a ≤ b) : (Lib.itoa a).length ≤ (Lib.itoa b).length := by
  rw [itoa_nn (by omega), itoa_nn (by omega)]
  have h1 := least_iff (dd_digits a.toNat) (dd_digits b.toNat)
  rw [dd_dv, dd_dv, decide_eq_true (show a.toNat ≤ b.toNat by omega)] at h1
  unfold leastB at h1
  simp only [Bool.or_eq_true, Bool.and_eq_true, decide_eq_true_eq] at h1
  omega
def rightV (v : Val) : Bool :=
  if v.k = 0 then decide (v.n = 0) && v.s == [] else if v.k = 1 then v.s == [] else if v.k = 2 then decide (v.n = 0) && isWordB v.s
  else if v.k = 3 then (decide (v.n = 0) || decide (v.n = 1)) && v.s == [] else false
def printV (v : Val) : Bs :=
  if rightV v = false then [] else if v.k = 0 then [126] else if v.k = 1 then Lib.itoa v.n else if v.k = 2 then v.s else if v.n = 1 then [84] else [70]
theorem right3 {x : Val} (h : rightV x = true) (h0 : ¬ x.k = 0) (h1 : ¬ x.k = 1) (h2 : ¬ x.k = 2) : x.k = 3 ∧ x.s = [] := by
  unfold rightV at h
  rw [if_neg h0, if_neg h1, if_neg h2] at h
  split at h
  · rename_i h3
    simp only [Bool.and_eq_true, beq_iff_eq] at h
    exact ⟨h3, h.2⟩
  · cases h
theorem right0 {x : Val} (h : rightV x = true) (h1 : ¬ x.k = 1) (h2 : ¬ x.k = 2) (h3 : ¬ x.k = 3) : x.k = 0 := by
  by_cases h0 : x.k = 0
  · exact h0
  · exact absurd (right3 h h0 h1 h2).1 h3
theorem print_len {x : Val} (hv : x.Wf) : (printV x).length ≤ 9223372036854775807 := by
  unfold printV
  split
  · decide
  split
  · decide
  split
  · have := Lib.itoa_length_le x.n hv.n.1 hv.n.2; omega
  split
  · exact hv.s
  split
  · decide
  · decide
theorem parse_wf {s : Bs} (hl : s.length ≤ 9223372036854775807) : (parseV s).1.Wf := by
  have h0 : I64 0 := by decide
  have h3 : I64 3 := by decide
  have h1 : I64 1 := by decide
  have h2 : I64 2 := by decide
  have hz : ([] : Bs).length ≤ 9223372036854775807 := by decide
  unfold parseV
  split
  · exact ⟨h0, h0, hz⟩
  split
  · exact ⟨h3, h1, hz⟩
  split
  · exact ⟨h3, h0, hz⟩
  split
  · exact ⟨h2, h0, hl⟩
  split
  · exact ⟨h0, h0, hz⟩
  · refine ⟨h1, ?_, hz⟩
    show I64 (okv (parseS s))
    cases hp : parseS s with
    | error e => exact h0
    | ok n => exact parse_range hp
theorem word_low {s : Bs} (h : isWordB s = true) : 97 ≤ bt s 0 ∧ bt s 0 ≤ 122 := by
  rw [word_def] at h
  simp only [lowB, Bool.and_eq_true, decide_eq_true_eq] at h
  exact h.2.1
theorem itoa_first {n : Int} : bt (Lib.itoa n) 0 = 45 ∨ (48 ≤ bt (Lib.itoa n) 0 ∧ bt (Lib.itoa n) 0 ≤ 57) := by
  by_cases h : 0 ≤ n
  · rw [itoa_nn h]
    exact .inr (dig_at (dd_all _) (i := 0) (dd_pos _))
  · rw [itoa_ng (by omega)]; exact .inl rfl
theorem itoa_noword {n : Int} : isWordB (Lib.itoa n) = false := by
  cases h : isWordB (Lib.itoa n) with
  | false => rfl
  | true => have := word_low h; have := itoa_first (n := n); omega
theorem bt_one (b : UInt8) : bt [b] 0 = (b.toNat : Int) := rfl
theorem parse_print {v : Val} (hn : -9223372036854775808 ≤ v.n ∧ v.n ≤ 9223372036854775807) (h : rightV v = true) : parseV (printV v) = (v, 0) := by
  obtain ⟨k, n, s⟩ := v
  unfold printV
  rw [if_neg (by rw [h]; decide)]
  unfold rightV at h
  dsimp only at h hn ⊢
  split at h
  · rename_i h1
    subst h1
    simp only [Bool.and_eq_true, decide_eq_true_eq, beq_iff_eq] at h
    obtain ⟨rfl, rfl⟩ := h
    rfl
  · rename_i h1
    rw [if_neg h1]
    split at h
    · rename_i h2
      subst h2
      rw [if_pos rfl]
      have hs : s = [] := by simpa using h
      subst hs
      have hf := itoa_first (n := n)
      unfold parseV
      rw [if_neg (fun e => by rw [e, bt_one] at hf; revert hf; decide), if_neg (fun e => by rw [e, bt_one] at hf; revert hf; decide), if_neg (fun e => by rw [e, bt_one] at hf; revert hf; decide), if_neg (by rw [itoa_noword]; decide), parse_itoa hn]
      rfl
    · rename_i h2
      rw [if_neg h2]
      split at h
      · rename_i h3
        subst h3
        rw [if_pos rfl]
        simp only [Bool.and_eq_true, decide_eq_true_eq] at h
        obtain ⟨rfl, hw⟩ := h
        have hf := word_low hw
        unfold parseV
        rw [if_neg (fun e => by rw [e, bt_one] at hf; revert hf; decide), if_neg (fun e => by rw [e, bt_one] at hf; revert hf; decide), if_neg (fun e => by rw [e, bt_one] at hf; revert hf; decide), if_pos hw]
      · rename_i h3
        rw [if_neg h3]
        split at h
        · rename_i h4
          subst h4
          simp only [Bool.and_eq_true, Bool.or_eq_true, decide_eq_true_eq, beq_iff_eq] at h
          obtain ⟨hn', rfl⟩ := h
          rcases hn' with rfl | rfl
          · rfl
          · rfl
        · cases h
theorem print_parse {s : Bs} (h : (parseV s).2 = 0) : rightV (parseV s).1 = true ∧ printV (parseV s).1 = s := by
  revert h
  unfold parseV
  split
  · rename_i h1; intro _; subst h1; exact ⟨rfl, rfl⟩
  split
  · rename_i h1; intro _; subst h1; exact ⟨rfl, rfl⟩
  split
  · rename_i h1; intro _; subst h1; exact ⟨rfl, rfl⟩
  split
  · rename_i hw
    intro _
    have hr : rightV ⟨2, 0, s⟩ = true := by show (decide ((0 : Int) = 0) && isWordB s) = true; rw [hw]; rfl
    refine ⟨hr, ?_⟩
    unfold printV
    rw [if_neg (by rw [hr]; decide)]
    rfl
  split
  · rename_i he; intro h; exact absurd h he
  · rename_i he
    intro _
    refine ⟨rfl, ?_⟩
    simp only [Classical.not_not] at he
    show Lib.itoa (okv (parseS s)) = s
    cases hp : parseS s with
    | error e =>
      rw [hp] at he
      have he' : e = 0 := he
      exfalso
      exact parse_err hp he'
    | ok n => exact itoa_parse hp

structure Row where
  model : Int
  op : Int
  ins : Bs
  out : Int
  may : Bool deriving DecidableEq
abbrev rowCells (r : Row) : List Value := [.int .i64 r.model, .int .i64 r.op, str r.ins, .int .i64 r.out, .bool r.may]
def kRow : Knd Row where
  sz := 5
  R := fun _ x cs => cs = rowCells x
  len := by rintro G x cs rfl; rfl
  le := fun _ h => h
theorem kRow_open {G : Heap} {b o : Nat} {x : Row} (h : ElAt kRow G b o x) : CellsAt G b o (rowCells x) := by
  obtain ⟨cs, rfl, hc⟩ := h
  exact hc
theorem kRow_one : KOne kRow := by rintro G x cs rfl; rfl
def rowsT : List Row := [⟨1, 1, [118], (-1), false⟩, ⟨1, 2, [], 2, true⟩, ⟨2, 1, [118], (-1), false⟩, ⟨2, 2, [], 2, true⟩, ⟨2, 3, [118, 118], 6, false⟩, ⟨3, 4, [118], (-1), false⟩, ⟨3, 5, [118], (-1), false⟩, ⟨3, 6, [118], 6, false⟩, ⟨4, 7, [102, 118], (-1), false⟩, ⟨4, 8, [102], 2, true⟩, ⟨4, 5, [102], (-1), false⟩, ⟨5, 9, [118], (-1), false⟩, ⟨5, 10, [], 2, true⟩, ⟨6, 9, [118], (-1), false⟩, ⟨6, 10, [], 2, true⟩, ⟨7, 11, [], 6, false⟩, ⟨7, 12, [], 6, false⟩, ⟨8, 4, [110], (-1), false⟩, ⟨8, 2, [], 5, false⟩, ⟨9, 1, [111], (-1), false⟩, ⟨9, 2, [], 4, true⟩, ⟨10, 7, [111, 118], (-1), false⟩, ⟨10, 5, [111], (-1), false⟩, ⟨10, 13, [111, 111], 99, false⟩]
def isRow (m o : Int) (r : Row) : Bool := decide (r.model = m) && decide (r.op = o)
def findS (m o : Int) : Row × Bool := match rowsT.find? (isRow m o) with
  | some r => (r, true)
  | none => (⟨0, 0, [], 0, false⟩, false)
def idxR : List Row → Int → Int → Int → Int
  | [], _, _, _ => -1
  | r :: rs, k, m, o => if isRow m o r = true then k else idxR rs (k + 1) m o
theorem idxR_step {rows : List Row} {i : Nat} {k m o : Int} {x : Row} {h : i < rows.length} (e : rows[i] = x) : idxR (rows.drop i) k m o = if isRow m o x = true then k else idxR (rows.drop (i + 1)) (k + 1) m o := by
  rw [List.drop_eq_getElem_cons h, e]
  rfl
theorem idxR_find (m o : Int) : ∀ (rows : List Row) (k : Int), 0 ≤ k → (idxR rows k m o = -1 ∧ rows.find? (isRow m o) = none) ∨ ∃ (j : Nat) (r : Row), idxR rows k m o = k + (j : Int) ∧ rows[j]? = some r ∧ rows.find? (isRow m o) = some r
  | [], k, _ => .inl ⟨rfl, rfl⟩
  | r :: rs, k, hk => by
    unfold idxR
    rw [List.find?_cons]
    by_cases h : isRow m o r = true
    · rw [if_pos h, h]
      exact .inr ⟨0, r, by omega, rfl, rfl⟩
    · rw [if_neg h, Bool.eq_false_iff.2 h]
      rcases idxR_find m o rs (k + 1) (by omega) with ⟨h1, h2⟩ | ⟨j, x, h1, h2, h3⟩
      · exact .inl ⟨h1, h2⟩
      · exact .inr ⟨j + 1, x, by rw [h1]; omega, by simpa using h2, h3⟩
theorem find_no {m o : Int} (h : idxR rowsT 0 m o < 0) : findS m o = (⟨0, 0, [], 0, false⟩, false) := by
  unfold findS
  rcases idxR_find m o rowsT 0 (by decide) with ⟨_, h2⟩ | ⟨j, x, h1, _, _⟩
  · rw [h2]
  · omega
theorem find_yes {m o : Int} (h : ¬ idxR rowsT 0 m o < 0) : (idxR rowsT 0 m o).toNat < rowsT.length ∧ ∀ x (h2 : (idxR rowsT 0 m o).toNat < rowsT.length), rowsT[(idxR rowsT 0 m o).toNat] = x → findS m o = (x, true) := by
  unfold findS
  rcases idxR_find m o rowsT 0 (by decide) with ⟨h1, h2⟩ | ⟨j, y, h1, h2, h3⟩
  · omega
  · have e : (idxR rowsT 0 m o).toNat = j := by omega
    have hl : j < rowsT.length := (List.getElem?_eq_some_iff.1 h2).1
    refine ⟨by omega, fun x hx hxx => ?_⟩
    rw [h3]
    have := (List.getElem?_eq_some_iff.1 h2).2
    simp only [e] at hxx
    rw [← hxx, this]
/-- The number of a word in a list; not the first one's. -/
def idxW : List Bs → Int → Bs → Int × Bool
  | [], _, _ => (0, false)
  | x :: r, k, w => if (decide (0 < k) && (x == w)) = true then (k, true) else idxW r (k + 1) w
theorem idxW_step {ws : List Bs} {i : Nat} {k : Int} {w x : Bs} {h : i < ws.length} (e : ws[i] = x) : idxW (ws.drop i) k w = if (decide (0 < k) && (x == w)) = true then (k, true) else idxW (ws.drop (i + 1)) (k + 1) w := by
  rw [List.drop_eq_getElem_cons h, e]
  rfl
def modelsW : List Bs := [[], [114, 101, 103], [99, 97, 115], [115, 101, 116], [109, 97, 112], [102, 105, 102, 111], [115, 116, 97, 99, 107], [108, 111, 99, 107], [99, 111, 117, 110, 116], [109, 97, 120], [111, 109, 97, 112]]
def opsW : List Bs := [[], [119, 114, 105, 116, 101], [114, 101, 97, 100], [115, 119, 97, 112], [97, 100, 100], [100, 101, 108], [104, 97, 115], [112, 117, 116], [103, 101, 116], [112, 117, 115, 104], [112, 111, 112], [116, 97, 107, 101], [102, 114, 101, 101], [115, 99, 97, 110]]
def namedW : List Bs := [[], [105, 110, 118, 111, 107, 101], [111, 107], [102, 97, 105, 108], [105, 110, 102, 111]]
def modelS (w : Bs) : Int × Bool := idxW modelsW 0 w
def opS (w : Bs) : Int × Bool := idxW opsW 0 w
def typedS (w : Bs) : Int × Bool := if [105, 110, 118, 111, 107, 101] == w then (1, true) else if [111, 107] == w then (2, true) else if [102, 97, 105, 108] == w then (3, true) else if [105, 110, 102, 111] == w then (4, true) else (0, false)
theorem idxW_rng : ∀ (ws : List Bs) (k : Int) (w : Bs), 0 ≤ k → 0 ≤ (idxW ws k w).1 ∧ (idxW ws k w).1 ≤ k + (ws.length : Int)
  | [], k, w, h => by show (0 : Int) ≤ 0 ∧ (0 : Int) ≤ _; simp; omega
  | x :: r, k, w, h => by
    unfold idxW
    split
    · show 0 ≤ k ∧ k ≤ _; omega
    · have := idxW_rng r (k + 1) w (by omega)
      simp only [List.length_cons]
      omega
def takesB (d : Int) (v : Val) : Bool :=
  if rightV v = false then false else if d = 0 ∨ d = 1 ∨ d = 2 ∨ d = 3 ∨ d = 4 then decide (v.k = 1) || decide (v.k = 2) else if d = 5 then decide (v.k = 1) else decide (d = 6) && decide (v.k = 3)
def domS (c : Int) : Int := if c = 118 then 2 else if c = 102 then 3 else if c = 111 then 4 else 5
def doms (s : Bs) : List Int := s.map fun b => domS (b.toNat : Int)
theorem doms_snoc {s : Bs} {i : Nat} (h : i < s.length) : doms (s.take i) ++ [domS (bt s (i : Int))] = doms (s.take (i + 1)) := by
  rw [bt_nat h]
  unfold doms
  rw [take_snoc h, List.map_append]
  rfl
def argsD (m o : Int) : List Int × Bool := if (findS m o).2 = true then (doms (findS m o).1.ins, true) else ([], false)
theorem find_len (m o : Int) : (findS m o).1.ins.length ≤ 2 := by
  unfold findS
  split
  · rename_i r h
    have hm := List.mem_of_find?_eq_some h
    have : ∀ r ∈ rowsT, r.ins.length ≤ 2 := by decide
    exact this r hm
  · decide
/-! What a line's words are read to. -/
def faultS (e e2 : Int) : Int := if e = 0 then e2 else e
theorem fault2_ne (e : Int) : ¬ faultS e 2 = 0 := by unfold faultS; split <;> omega
def nextS (l : List Bs) (e : Int) : Bs × List Bs × Int :=
  if (if l = [] then faultS e 2 else e) = 0 then (l.getD 0 [], l.drop 1, 0) else ([], l, if l = [] then faultS e 2 else e)
def valueS (d : Int) (l : List Bs) (e : Int) : Val × List Bs × Int :=
  if (nextS l e).2.2 = 0 then ((parseV (nextS l e).1).1, (nextS l e).2.1,
    if ((decide (faultS (nextS l e).2.2 (parseV (nextS l e).1).2 = 0) && decide (0 ≤ d)) && !takesB d (parseV (nextS l e).1).1) = true then faultS (faultS (nextS l e).2.2 (parseV (nextS l e).1).2) 2 else faultS (nextS l e).2.2 (parseV (nextS l e).1).2)
  else (⟨0, 0, []⟩, (nextS l e).2.1, (nextS l e).2.2)
def numberS (tab : Bs → Int × Bool) (l : List Bs) (e : Int) : Int × List Bs × Int :=
  ((tab (nextS l e).1).1, (nextS l e).2.1, if (!(tab (nextS l e).1).2) = true then faultS (nextS l e).2.2 2 else (nextS l e).2.2)
theorem next_len {l : List Bs} {e : Int} {M : Nat} (h : ∀ x ∈ l, x.length ≤ M) : (nextS l e).1.length ≤ M ∧ (∀ x ∈ (nextS l e).2.1, x.length ≤ M) ∧ (nextS l e).2.1.length ≤ l.length := by
  unfold nextS
  by_cases hc : (if l = [] then faultS e 2 else e) = 0
  · rw [if_pos hc]
    refine ⟨?_, fun x hx => h x (List.mem_of_mem_drop hx), by show (l.drop 1).length ≤ _; simp⟩
    cases l with
    | nil => exact Nat.zero_le _
    | cons a r => exact h a List.mem_cons_self
  · rw [if_neg hc]
    exact ⟨Nat.zero_le _, h, Nat.le_refl _⟩
theorem value_left (d : Int) (l : List Bs) (e : Int) : (valueS d l e).2.1 = (nextS l e).2.1 := by
  unfold valueS
  split <;> rfl
theorem value_wf {d : Int} {l : List Bs} {e : Int} (h : ∀ x ∈ l, x.length ≤ 4294967280) : (valueS d l e).1.Wf := by
  unfold valueS
  split
  · exact parse_wf (by have := (next_len (e := e) h).1; omega)
  · show (⟨0, 0, []⟩ : Val).Wf
    exact ⟨by decide, by decide, by decide⟩
/-! `incognito/value.IsWord` -/
set_option maxRecDepth 100000 in
set_option maxHeartbeats 4000000 in
theorem c_isWord (s : Bs) (w0 : World) (G : Heap) (hG : Sub G w0) (hl : s.length ≤ 9223372036854775807):
  Calls Tryd.prog 39 #[str s] w0 (Ret w0 G (fun v _ => v = .bool (isWordB s))) := by
 refine enter Tryd.func39 rfl Tryd.ntmps39 rfl ?_
 intro Q hQ a HE
 have HS := St.start0 hG
 refine sr fun K hK => ?_
 refine rn 1 HE HS ?_; clear HE HS; intro a w HE HS
 apply hK; clear hK K
 refine wp_seq_k (fun K3 hK2 => ?_)
 refine sr fun K hK => ?_
 refine rn 3 HE HS ?_; clear HE HS; intro a w HE HS
 refine cutG 4 11 (.bool ((s == []) || (decide (40 < (s.length : Int))))) HE HS ?_ ?_
 ·refine bsp HE (t := 7) rfl (fun hb4 => ?_) (fun hb4 => ?_)
  ·skip
   refine rn 4 HE HS ?_; clear HE HS; intro a w HE HS
   exact ⟨HS, HE.cutT (by rw [hb4] <;> rfl)⟩
  ·have hk5 := nm hb4
   refine rn 4 HE HS ?_; clear HE HS; intro a w HE HS
   exact ⟨HS, HE.cutT (by rw [hb4] <;> rfl)⟩
 clear HE HS; intro a w HE HS
 refine rn 1 HE HS ?_; clear HE HS; intro a w HE HS
 refine cutG 4 16 (.bool (((s == []) || (decide (40 < (s.length : Int)))) || (decide ((bt s 0) < 97)))) HE HS ?_ ?_
 ·refine bsp HE (t := 12) rfl (fun hb6 => ?_) (fun hb6 => ?_)
  ·skip
   refine rn 4 HE HS ?_; clear HE HS; intro a w HE HS
   exact ⟨HS, HE.cutT (by rw [hb6] <;> rfl)⟩
  ·have hk7 := nm hb6
   refine rn 1 HE HS ?_; clear HE HS; intro a w HE HS
   refine op_on HE rfl rfl hb6 ?_
   refine o_index HE rfl rfl rfl Tryd.underlying9 (by (have := List.length_pos_iff.2 (show s ≠ [] by simp_all); omega)) ?_; clear HE; intro a HE
   refine rn 2 HE HS ?_; clear HE HS; intro a w HE HS
   exact ⟨HS, HE.cutT (by rw [hb6] <;> rfl)⟩
 clear HE HS; intro a w HE HS
 refine rn 1 HE HS ?_; clear HE HS; intro a w HE HS
 refine cutG 4 21 (.bool ((((s == []) || (decide (40 < (s.length : Int)))) || (decide ((bt s 0) < 97))) || (decide (122 < (bt s 0))))) HE HS ?_ ?_
 ·refine bsp HE (t := 17) rfl (fun hb8 => ?_) (fun hb8 => ?_)
  ·skip
   refine rn 4 HE HS ?_; clear HE HS; intro a w HE HS
   exact ⟨HS, HE.cutT (by rw [hb8] <;> rfl)⟩
  ·have hk9 := nm hb8
   refine rn 1 HE HS ?_; clear HE HS; intro a w HE HS
   refine op_on HE rfl rfl hb8 ?_
   refine o_index HE rfl rfl rfl Tryd.underlying9 (by (have := List.length_pos_iff.2 (show s ≠ [] by simp_all); omega)) ?_; clear HE; intro a HE
   refine rn 2 HE HS ?_; clear HE HS; intro a w HE HS
   exact ⟨HS, HE.cutT (by rw [hb8] <;> rfl)⟩
 clear HE HS; intro a w HE HS
 apply hK; clear hK K
 refine cond HE rfl (fun h11r => ?_) (fun h11r => ?_)
 ·have h11 := nm h11r
  refine sr fun K hK => ?_
  refine rn 1 HE HS ?_; clear HE HS; intro a w HE HS
  apply hK; clear hK K
  refine rt hQ HE HS ?_
  show _ = _
  simp only [packed, Value.bool.injEq]
  rcases h11 with ((h | h) | h) | h
  exact (word_len (.inl h)).symm
  exact (word_len (.inr h)).symm
  exact (word_first (.inl h)).symm
  exact (word_first (.inr h)).symm
 ·have h11 := nm h11r
  refine wp_skip ?_
  refine hK2 _ _ ?_; clear hK2
  refine wp_seq_k (fun K14 hK13 => ?_)
  refine sr fun K hK => ?_
  refine rn 3 HE HS ?_; clear HE HS; intro a w HE HS
  apply hK; clear hK K
  refine wp_block ?_
  refine loop (fun (i : Nat) a' w' => St w0 G [] G w' [] ∧ Env a' 50 [] [(0, str s), (23, .int .i64 (s.length : Int)), (24, .int .i64 (i : Int))] ∧ (i ≤ s.length ∧ (s.take i).all wordC = true)) (fun (i : Nat) => s.length - i) 0 ⟨HS, HE.cut ⟨rfl, rfl, rfl, trivial⟩, ⟨Nat.zero_le _, rfl⟩⟩ ?_
  clear HE HS; intro i a w ⟨HS, HE, ⟨hi, ha⟩⟩
  refine sr fun K hK => ?_
  refine rn 1 HE HS ?_; clear HE HS; intro a w HE HS
  apply hK; clear hK K
  refine wp_seq_k (fun K19 hK18 => ?_)
  refine cond HE rfl (fun h20r => ?_) (fun h20r => ?_)
  ·have h20 := nm h20r
   refine wp_skip ?_
   refine hK18 _ _ ?_; clear hK18
   refine wp_seq_k (fun K22 hK21 => ?_)
   refine wp_block ?_
   refine sr fun K hK => ?_
   refine rn 2 HE HS ?_; clear HE HS; intro a w HE HS
   apply hK; clear hK K
   refine sr fun K hK => ?_
   refine rn 2 HE HS ?_; clear HE HS; intro a w HE HS
   refine o_index HE rfl rfl rfl Tryd.underlying9 (by omega) ?_; clear HE; intro a HE
   refine rn 1 HE HS ?_; clear HE HS; intro a w HE HS
   apply hK; clear hK K
   refine sr fun K hK => ?_
   refine rn 3 HE HS ?_; clear HE HS; intro a w HE HS
   refine cutG 3 35 (.bool ((decide (97 ≤ (bt s (i : Int)))) && (decide ((bt s (i : Int)) ≤ 122)))) HE HS ?_ ?_
   ·refine bsp HE (t := 32) rfl (fun hb25 => ?_) (fun hb25 => ?_)
    ·have hk26 := nm hb25
     refine rn 3 HE HS ?_; clear HE HS; intro a w HE HS
     exact ⟨HS, HE.cutT (by rw [hb25] <;> rfl)⟩
    ·skip
     refine rn 3 HE HS ?_; clear HE HS; intro a w HE HS
     exact ⟨HS, HE.cutT (by rw [hb25] <;> rfl)⟩
   clear HE HS; intro a w HE HS
   refine rn 1 HE HS ?_; clear HE HS; intro a w HE HS
   refine cutG 7 43 (.bool (((decide (97 ≤ (bt s (i : Int)))) && (decide ((bt s (i : Int)) ≤ 122))) || ((decide (48 ≤ (bt s (i : Int)))) && (decide ((bt s (i : Int)) ≤ 57))))) HE HS ?_ ?_
   ·refine bsp HE (t := 36) rfl (fun hb27 => ?_) (fun hb27 => ?_)
    ·skip
     refine rn 7 HE HS ?_; clear HE HS; intro a w HE HS
     exact ⟨HS, HE.cutT (by rw [hb27] <;> rfl)⟩
    ·have hk28 := nm hb27
     refine rn 3 HE HS ?_; clear HE HS; intro a w HE HS
     refine cutG 3 42 (.bool ((decide (48 ≤ (bt s (i : Int)))) && (decide ((bt s (i : Int)) ≤ 57)))) HE HS ?_ ?_
     ·refine bsp HE (t := 39) rfl (fun hb29 => ?_) (fun hb29 => ?_)
      ·have hk30 := nm hb29
       refine rn 3 HE HS ?_; clear HE HS; intro a w HE HS
       exact ⟨HS, HE.cutT (by rw [hb29] <;> rfl)⟩
      ·skip
       refine rn 3 HE HS ?_; clear HE HS; intro a w HE HS
       exact ⟨HS, HE.cutT (by rw [hb29] <;> rfl)⟩
     clear HE HS; intro a w HE HS
     refine rn 1 HE HS ?_; clear HE HS; intro a w HE HS
     exact ⟨HS, HE.cutT (by rw [hb27] <;> rfl)⟩
   clear HE HS; intro a w HE HS
   refine rn 1 HE HS ?_; clear HE HS; intro a w HE HS
   refine cutG 3 47 (.bool ((((decide (97 ≤ (bt s (i : Int)))) && (decide ((bt s (i : Int)) ≤ 122))) || ((decide (48 ≤ (bt s (i : Int)))) && (decide ((bt s (i : Int)) ≤ 57)))) || (decide ((bt s (i : Int)) = 95)))) HE HS ?_ ?_
   ·refine bsp HE (t := 44) rfl (fun hb31 => ?_) (fun hb31 => ?_)
    ·skip
     refine rn 3 HE HS ?_; clear HE HS; intro a w HE HS
     exact ⟨HS, HE.cutT (by rw [hb31] <;> rfl)⟩
    ·have hk32 := nm hb31
     refine rn 3 HE HS ?_; clear HE HS; intro a w HE HS
     exact ⟨HS, HE.cutT (by rw [hb31] <;> rfl)⟩
   clear HE HS; intro a w HE HS
   refine rn 1 HE HS ?_; clear HE HS; intro a w HE HS
   apply hK; clear hK K
   refine cond HE rfl (fun h34r => ?_) (fun h34r => ?_)
   ·have h34 := nm h34r
    refine sr fun K hK => ?_
    refine rn 1 HE HS ?_; clear HE HS; intro a w HE HS
    apply hK; clear hK K
    refine rt hQ HE HS ?_
    show _ = _
    simp only [packed, Value.bool.injEq]
    have hz := h34r
    rw [letter_eq] at hz
    exact (word_at (i := i) (by omega) (by simpa using hz)).symm
   ·have h34 := nm h34r
    refine wp_skip ?_
    refine hK21 _ _ ?_; clear hK21
    refine wp_region_lit ?_
    refine rn 2 HE HS ?_; clear HE HS; intro a w HE HS
    have hlt : i < s.length := by omega
    have hz := h34r
    rw [letter_eq] at hz
    have ha2 : (s.take (i + 1)).all wordC = true := by rw [all_snoc hlt, ha, wordC_bt hlt, Bool.true_and]; simpa using hz
    exact ⟨i + 1, ⟨HS, HE.cut ⟨rfl, rfl, rfl, trivial⟩, ⟨by omega, ha2⟩⟩, by omega⟩
  ·have h20 := nm h20r
   refine wp_exit ?_
   refine hK13 _ _ ?_; clear hK13
   refine sr fun K hK => ?_
   refine rn 1 HE HS ?_; clear HE HS; intro a w HE HS
   apply hK; clear hK K
   refine rt hQ HE HS ?_
   show _ = _
   simp only [packed, Value.bool.injEq]
   exact (word_yes h11.1.1.1 h11.1.1.2 h11.1.2 h11.2 (by rwa [show i = s.length by omega, List.take_length] at ha)).symm

/-! `cmp.isNaN[int]` -/
set_option maxRecDepth 100000 in
set_option maxHeartbeats 4000000 in
theorem c_nan_int (x : Int) (w0 : World) (G : Heap) (hG : Sub G w0) :
  Calls Tryd.prog 47 #[.int .i64 x] w0 (Ret w0 G (fun v _ => v = .bool false)) := by
 refine enter Tryd.func47 rfl Tryd.ntmps47 rfl ?_
 intro Q hQ a HE
 have HS := St.start0 hG
 refine sr fun K hK => ?_
 refine rn 1 HE HS ?_; clear HE HS; intro a w HE HS
 apply hK; clear hK K
 refine sr fun K hK => ?_
 refine rn 4 HE HS ?_; clear HE HS; intro a w HE HS
 apply hK; clear hK K
 refine rt hQ HE HS ?_
 show _ = _
 simp [packed]

/-! `cmp.Compare[int]` -/
set_option maxRecDepth 100000 in
set_option maxHeartbeats 4000000 in
theorem c_cmp_int (x y : Int) (w0 : World) (G : Heap) (hG : Sub G w0) :
  Calls Tryd.prog 36 #[.int .i64 x, .int .i64 y] w0 (Ret w0 G (fun v _ => v = .int .i64 (cmpI x y))) := by
 refine enter Tryd.func36 rfl Tryd.ntmps36 rfl ?_
 intro Q hQ a HE
 have HS := St.start0 hG
 refine sr fun K hK => ?_
 refine rn 1 HE HS ?_; clear HE HS; intro a w HE HS
 apply hK; clear hK K
 refine sr fun K hK => ?_
 refine rn 1 HE HS ?_; clear HE HS; intro a w HE HS
 refine o_callP HE rfl HS rfl rfl T.g47 (c_nan_int x _ _ HS.sub) ?_
 clear HE HS; rintro _ w a HS rfl HE
 refine rn 1 HE HS ?_; clear HE HS; intro a w HE HS
 apply hK; clear hK K
 refine sr fun K hK => ?_
 refine rn 1 HE HS ?_; clear HE HS; intro a w HE HS
 refine o_callP HE rfl HS rfl rfl T.g47 (c_nan_int y _ _ HS.sub) ?_
 clear HE HS; rintro _ w a HS rfl HE
 refine rn 1 HE HS ?_; clear HE HS; intro a w HE HS
 apply hK; clear hK K
 refine wp_seq_k (fun K5 hK4 => ?_)
 refine sr fun K hK => ?_
 refine rn 1 HE HS ?_; clear HE HS; intro a w HE HS
 apply hK; clear hK K
 refine cond HE rfl (fun h7r => ?_) (fun h7r => ?_)
 ·exact absurd h7r (by decide)
 ·have h7 := nm h7r
  refine wp_skip ?_
  refine hK4 _ _ ?_; clear hK4
  refine wp_seq_k (fun K9 hK8 => ?_)
  refine sr fun K hK => ?_
  refine rn 1 HE HS ?_; clear HE HS; intro a w HE HS
  apply hK; clear hK K
  refine cond HE rfl (fun h11r => ?_) (fun h11r => ?_)
  ·exact absurd h11r (by decide)
  ·have h11 := nm h11r
   refine wp_skip ?_
   refine hK8 _ _ ?_; clear hK8
   refine wp_seq_k (fun K13 hK12 => ?_)
   refine sr fun K hK => ?_
   refine rn 3 HE HS ?_; clear HE HS; intro a w HE HS
   apply hK; clear hK K
   refine cond HE rfl (fun h15r => ?_) (fun h15r => ?_)
   ·have h15 := nm h15r
    refine sr fun K hK => ?_
    refine rn 1 HE HS ?_; clear HE HS; intro a w HE HS
    apply hK; clear hK K
    refine rt hQ HE HS ?_
    show _ = _
    simp only [packed, cmpI]
    rw [if_pos h15]
   ·have h15 := nm h15r
    refine wp_skip ?_
    refine hK12 _ _ ?_; clear hK12
    refine wp_seq_k (fun K18 hK17 => ?_)
    refine sr fun K hK => ?_
    refine rn 3 HE HS ?_; clear HE HS; intro a w HE HS
    apply hK; clear hK K
    refine cond HE rfl (fun h20r => ?_) (fun h20r => ?_)
    ·have h20 := nm h20r
     refine sr fun K hK => ?_
     refine rn 1 HE HS ?_; clear HE HS; intro a w HE HS
     apply hK; clear hK K
     refine rt hQ HE HS ?_
     show _ = _
     simp only [packed, cmpI]
     rw [if_neg h15, if_pos h20]
    ·have h20 := nm h20r
     refine wp_skip ?_
     refine hK17 _ _ ?_; clear hK17
     refine sr fun K hK => ?_
     refine rn 1 HE HS ?_; clear HE HS; intro a w HE HS
     apply hK; clear hK K
     refine rt hQ HE HS ?_
     show _ = _
     simp only [packed, cmpI]
     rw [if_neg h15, if_neg h20]

/-! `cmp.isNaN[int64]` -/
set_option maxRecDepth 100000 in
set_option maxHeartbeats 4000000 in
theorem c_nan_int64 (x : Int) (w0 : World) (G : Heap) (hG : Sub G w0) :
  Calls Tryd.prog 48 #[.int .i64 x] w0 (Ret w0 G (fun v _ => v = .bool false)) := by
 refine enter Tryd.func48 rfl Tryd.ntmps48 rfl ?_
 intro Q hQ a HE
 have HS := St.start0 hG
 refine sr fun K hK => ?_
 refine rn 1 HE HS ?_; clear HE HS; intro a w HE HS
 apply hK; clear hK K
 refine sr fun K hK => ?_
 refine rn 4 HE HS ?_; clear HE HS; intro a w HE HS
 apply hK; clear hK K
 refine rt hQ HE HS ?_
 show _ = _
 simp [packed]

/-! `cmp.Compare[int64]` -/
set_option maxRecDepth 100000 in
set_option maxHeartbeats 4000000 in
theorem c_cmp_int64 (x y : Int) (w0 : World) (G : Heap) (hG : Sub G w0) :
  Calls Tryd.prog 37 #[.int .i64 x, .int .i64 y] w0 (Ret w0 G (fun v _ => v = .int .i64 (cmpI x y))) := by
 refine enter Tryd.func37 rfl Tryd.ntmps37 rfl ?_
 intro Q hQ a HE
 have HS := St.start0 hG
 refine sr fun K hK => ?_
 refine rn 1 HE HS ?_; clear HE HS; intro a w HE HS
 apply hK; clear hK K
 refine sr fun K hK => ?_
 refine rn 1 HE HS ?_; clear HE HS; intro a w HE HS
 refine o_callP HE rfl HS rfl rfl T.g48 (c_nan_int64 x _ _ HS.sub) ?_
 clear HE HS; rintro _ w a HS rfl HE
 refine rn 1 HE HS ?_; clear HE HS; intro a w HE HS
 apply hK; clear hK K
 refine sr fun K hK => ?_
 refine rn 1 HE HS ?_; clear HE HS; intro a w HE HS
 refine o_callP HE rfl HS rfl rfl T.g48 (c_nan_int64 y _ _ HS.sub) ?_
 clear HE HS; rintro _ w a HS rfl HE
 refine rn 1 HE HS ?_; clear HE HS; intro a w HE HS
 apply hK; clear hK K
 refine wp_seq_k (fun K5 hK4 => ?_)
 refine sr fun K hK => ?_
 refine rn 1 HE HS ?_; clear HE HS; intro a w HE HS
 apply hK; clear hK K
 refine cond HE rfl (fun h7r => ?_) (fun h7r => ?_)
 ·exact absurd h7r (by decide)
 ·have h7 := nm h7r
  refine wp_skip ?_
  refine hK4 _ _ ?_; clear hK4
  refine wp_seq_k (fun K9 hK8 => ?_)
  refine sr fun K hK => ?_
  refine rn 1 HE HS ?_; clear HE HS; intro a w HE HS
  apply hK; clear hK K
  refine cond HE rfl (fun h11r => ?_) (fun h11r => ?_)
  ·exact absurd h11r (by decide)
  ·have h11 := nm h11r
   refine wp_skip ?_
   refine hK8 _ _ ?_; clear hK8
   refine wp_seq_k (fun K13 hK12 => ?_)
   refine sr fun K hK => ?_
   refine rn 3 HE HS ?_; clear HE HS; intro a w HE HS
   apply hK; clear hK K
   refine cond HE rfl (fun h15r => ?_) (fun h15r => ?_)
   ·have h15 := nm h15r
    refine sr fun K hK => ?_
    refine rn 1 HE HS ?_; clear HE HS; intro a w HE HS
    apply hK; clear hK K
    refine rt hQ HE HS ?_
    show _ = _
    simp only [packed, cmpI]
    rw [if_pos h15]
   ·have h15 := nm h15r
    refine wp_skip ?_
    refine hK12 _ _ ?_; clear hK12
    refine wp_seq_k (fun K18 hK17 => ?_)
    refine sr fun K hK => ?_
    refine rn 3 HE HS ?_; clear HE HS; intro a w HE HS
    apply hK; clear hK K
    refine cond HE rfl (fun h20r => ?_) (fun h20r => ?_)
    ·have h20 := nm h20r
     refine sr fun K hK => ?_
     refine rn 1 HE HS ?_; clear HE HS; intro a w HE HS
     apply hK; clear hK K
     refine rt hQ HE HS ?_
     show _ = _
     simp only [packed, cmpI]
     rw [if_neg h15, if_pos h20]
    ·have h20 := nm h20r
     refine wp_skip ?_
     refine hK17 _ _ ?_; clear hK17
     refine sr fun K hK => ?_
     refine rn 1 HE HS ?_; clear HE HS; intro a w HE HS
     apply hK; clear hK K
     refine rt hQ HE HS ?_
     show _ = _
     simp only [packed, cmpI]
     rw [if_neg h15, if_neg h20]

/-! `internal/bytealg.CompareString` -/
set_option maxRecDepth 100000 in
set_option maxHeartbeats 4000000 in
theorem c_cmpS (x y : Bs) (w0 : World) (G : Heap) (hG : Sub G w0) :
  Calls Tryd.prog 49 #[str x, str y] w0 (Ret w0 G (fun v _ => v = .int .i64 (Lib.compareBytes x y))) := by
 refine enter Tryd.func49 rfl Tryd.ntmps49 rfl ?_
 intro Q hQ a HE
 have HS := St.start0 hG
 refine sr fun K hK => ?_
 refine rn 1 HE HS ?_; clear HE HS; intro a w HE HS
 apply hK; clear hK K
 refine sr fun K hK => ?_
 refine rn 2 HE HS ?_; clear HE HS; intro a w HE HS
 refine o_ext HE rfl rfl rfl Tryd.func70 (by kernel_rfl) (by kernel_rfl) (by kernel_rfl) (e := Extern.BytealgCompare.compare) (by kernel_rfl) (Lib.run_compareString _ _ _) ?_; clear HE; intro a HE
 refine rn 1 HE HS ?_; clear HE HS; intro a w HE HS
 apply hK; clear hK K
 refine rt hQ HE HS ?_
 exact rfl

/-! `strings.Compare` -/
set_option maxRecDepth 100000 in
set_option maxHeartbeats 4000000 in
theorem c_cmpStr (x y : Bs) (w0 : World) (G : Heap) (hG : Sub G w0) :
  Calls Tryd.prog 38 #[str x, str y] w0 (Ret w0 G (fun v _ => v = .int .i64 (Lib.compareBytes x y))) := by
 refine enter Tryd.func38 rfl Tryd.ntmps38 rfl ?_
 intro Q hQ a HE
 have HS := St.start0 hG
 refine sr fun K hK => ?_
 refine rn 1 HE HS ?_; clear HE HS; intro a w HE HS
 apply hK; clear hK K
 refine sr fun K hK => ?_
 refine rn 2 HE HS ?_; clear HE HS; intro a w HE HS
 refine o_callP HE rfl HS rfl rfl T.g49 (c_cmpS x y _ _ HS.sub) ?_
 clear HE HS; rintro _ w a HS rfl HE
 refine rn 1 HE HS ?_; clear HE HS; intro a w HE HS
 apply hK; clear hK K
 refine rt hQ HE HS ?_
 exact rfl

/-! `cmp.Or[int]` -/
set_option maxRecDepth 100000 in
set_option maxHeartbeats 4000000 in
theorem c_or (xs : List Int) (A : Option Addr) (c : Nat) (w0 : World) (G : Heap) (hG : Sub G w0) (hR : Rd (Knd.int .i64) G A xs) (hl : xs.length ≤ 9223372036854775807):
  Calls Tryd.prog 35 #[.slice A xs.length c] w0 (Ret w0 G (fun v _ => v = .int .i64 (orL xs))) := by
 refine enter Tryd.func35 rfl Tryd.ntmps35 rfl ?_
 intro Q hQ a HE
 have HS := St.start0 hG
 refine sr fun K hK => ?_
 refine rn 1 HE HS ?_; clear HE HS; intro a w HE HS
 apply hK; clear hK K
 refine sr fun K hK => ?_
 refine rn 1 HE HS ?_; clear HE HS; intro a w HE HS
 apply hK; clear hK K
 refine wp_seq_k (fun K4 hK3 => ?_)
 refine sr fun K hK => ?_
 refine rn 3 HE HS ?_; clear HE HS; intro a w HE HS
 apply hK; clear hK K
 refine wp_block ?_
 refine loop (fun (i : Nat) a' w' => St w0 G [] G w' [] ∧ Env a' 18 [] [(3, .int .i64 0), (6, .slice A xs.length c), (7, .int .i64 (xs.length : Int)), (8, .int .i64 (i : Int))] ∧ (i ≤ xs.length ∧ orL xs = orL (xs.drop i))) (fun (i : Nat) => xs.length - i) 0 ⟨HS, HE.cut ⟨rfl, rfl, rfl, rfl, trivial⟩, ⟨Nat.zero_le _, rfl⟩⟩ ?_
 clear HE HS; intro i a w ⟨HS, HE, ⟨hi, ho⟩⟩
 refine sr fun K hK => ?_
 refine rn 1 HE HS ?_; clear HE HS; intro a w HE HS
 apply hK; clear hK K
 refine wp_seq_k (fun K9 hK8 => ?_)
 refine cond HE rfl (fun h10r => ?_) (fun h10r => ?_)
 ·have h10 := nm h10r
  refine wp_skip ?_
  refine hK8 _ _ ?_; clear hK8
  refine wp_seq_k (fun K12 hK11 => ?_)
  refine wp_block ?_
  refine sr fun K hK => ?_
  have hi13 : (i : Int).toNat < xs.length := by omega
  obtain ⟨eb13, eo13, hA13, el13⟩ := Rd.at hR (List.getElem?_eq_getElem hi13); cases hA13
  obtain ⟨x13, ex13⟩ : ∃ x, xs[(i : Int).toNat] = x := ⟨_, rfl⟩; rw [ex13] at el13
  have el13 := kof_open el13
  refine o_ixL HE rfl rfl rfl T.l92 ⟨by omega, by omega⟩ ?_; clear HE; intro a HE
  refine o_ldI HE rfl HS rfl T.s3 el13 (j := 0) rfl rfl ?_; clear HE; intro a HE
  refine rn 1 HE HS ?_; clear HE HS; intro a w HE HS
  apply hK; clear hK K
  refine sr fun K hK => ?_
  refine rn 3 HE HS ?_; clear HE HS; intro a w HE HS
  apply hK; clear hK K
  refine cond HE rfl (fun h16r => ?_) (fun h16r => ?_)
  ·have h16 := nm h16r
   refine sr fun K hK => ?_
   refine rn 2 HE HS ?_; clear HE HS; intro a w HE HS
   apply hK; clear hK K
   refine rt hQ HE HS ?_
   show _ = _
   rw [ho, List.drop_eq_getElem_cons (show i < xs.length by omega)]
   have ez : xs[i] = x13 := ex13
   rw [ez]
   exact (congrArg (Value.int .i64) (if_neg h16)).symm
  ·have h16 := nm h16r
   refine wp_skip ?_
   refine hK11 _ _ ?_; clear hK11
   refine wp_region_lit ?_
   refine rn 2 HE HS ?_; clear HE HS; intro a w HE HS
   have hd2 : orL xs = orL (xs.drop (i + 1)) := by
    rw [ho, List.drop_eq_getElem_cons (show i < xs.length by omega)]
    exact if_pos ((ex13 : xs[i] = x13) ▸ h16)
   exact ⟨i + 1, ⟨HS, HE.cut ⟨rfl, rfl, rfl, rfl, trivial⟩, ⟨by omega, hd2⟩⟩, by omega⟩
 ·have h10 := nm h10r
  refine wp_exit ?_
  refine hK3 _ _ ?_; clear hK3
  refine sr fun K hK => ?_
  refine rn 2 HE HS ?_; clear HE HS; intro a w HE HS
  apply hK; clear hK K
  refine rt hQ HE HS ?_
  show _ = _
  rw [ho, List.drop_of_length_le (by omega)]
  rfl

/-! `incognito/value.Compare` -/
set_option maxRecDepth 100000 in
set_option maxHeartbeats 4000000 in
theorem c_compare (x y : Val) (w0 : World) (G : Heap) (hG : Sub G w0) :
  Calls Tryd.prog 26 #[.agg #[.int .i64 x.k, .int .i64 x.n, str x.s], .agg #[.int .i64 y.k, .int .i64 y.n, str y.s]] w0 (Ret w0 G (fun v _ => v = .int .i64 (compareV x y))) := by
 refine enter Tryd.func26 rfl Tryd.ntmps26 rfl ?_
 intro Q hQ a HE
 have HS := St.start0 hG
 refine sr fun K hK => ?_
 refine o_bx3 HE rfl HS rfl ?_; clear HE HS; intro B2 w a HS HE
 refine o_bx3 HE rfl HS rfl ?_; clear HE HS; intro B3 w a HS HE
 refine rn 1 HE HS ?_; clear HE HS; intro a w HE HS
 apply hK; clear hK K
 refine wp_seq_k (fun K3 hK2 => ?_)
 replace HE := HE.cut (L' := [(0, .agg #[.int .i64 x.k, .int .i64 x.n, str x.s]), (1, .agg #[.int .i64 y.k, .int .i64 y.n, str y.s]), (2, .pointer (some ⟨B2, 0, none⟩)), (3, .pointer (some ⟨B3, 0, none⟩))]) ⟨rfl, rfl, rfl, rfl, trivial⟩
 refine drawnW [fun v _ => v = .pointer (some ⟨B2, 0, none⟩), fun v _ => v = .int .i64 x.k, fun v _ => v = .pointer (some ⟨B3, 0, none⟩), fun v _ => v = .int .i64 y.k, fun v _ => v = .int .i64 (cmpI x.k y.k), fun v _ => v = .pointer (some ⟨B2, 1, none⟩), fun v _ => v = .int .i64 x.n, fun v _ => v = .pointer (some ⟨B3, 1, none⟩), fun v _ => v = .int .i64 y.n, fun v _ => v = .int .i64 (cmpI x.n y.n), fun v _ => v = .pointer (some ⟨B2, 2, none⟩), fun v _ => v = str x.s, fun v _ => v = .pointer (some ⟨B3, 2, none⟩), fun v _ => v = str y.s, fun v _ => v = .int .i64 (Lib.compareBytes x.s y.s), fun v G' => ∃ Ad c, v = .slice Ad 3 c ∧ 3 ≤ c ∧ Rd (Knd.int .i64) G' Ad [cmpI x.k y.k, cmpI x.n y.n, Lib.compareBytes x.s y.s], fun v _ => v = .int .i64 (orL [cmpI x.k y.k, cmpI x.n y.n, Lib.compareBytes x.s y.s]), fun v _ => v = .int .i64 (orL [cmpI x.k y.k, cmpI x.n y.n, Lib.compareBytes x.s y.s])] T.mix rfl HE HS rfl ⟨fun _ _ _ _ h => h, fun _ _ _ _ h => h, fun _ _ _ _ h => h, fun _ _ _ _ h => h, fun _ _ _ _ h => h, fun _ _ _ _ h => h, fun _ _ _ _ h => h, fun _ _ _ _ h => h, fun _ _ _ _ h => h, fun _ _ _ _ h => h, fun _ _ _ _ h => h, fun _ _ _ _ h => h, fun _ _ _ _ h => h, fun _ _ _ _ h => h, fun _ _ _ _ h => h, fun _ _ _ h hx => (SlV.mono h hx), fun _ _ _ _ h => h, fun _ _ _ _ h => h, trivial⟩ ⟨?_, ?_, ?_, ?_, ?_, ?_, ?_, ?_, ?_, ?_, ?_, ?_, ?_, ?_, ?_, ?_, ?_, ?_, trivial⟩ ?_
 ·intro a w G1 hl HS HE hp
  refine o_fld HE rfl rfl T.f32_0 ?_; clear HE; intro a HE
  exact ⟨_, _, _, Heap.le.refl _, HS, rfl, HE.get _ _ rfl, HE.defers, rfl⟩
 ·intro a w G1 hl HS HE hp
  obtain ⟨_, e0, rfl⟩ := hp 0 5 _ rfl rfl rfl; replace HE := HE.add e0
  refine o_ld HE rfl HS rfl T.s3 (.there (.here .here)) rfl ?_; clear HE; intro a HE
  exact ⟨_, _, _, Heap.le.refl _, HS, rfl, HE.get _ _ rfl, HE.defers, rfl⟩
 ·intro a w G1 hl HS HE hp
  refine o_fld HE rfl rfl T.f32_0 ?_; clear HE; intro a HE
  exact ⟨_, _, _, Heap.le.refl _, HS, rfl, HE.get _ _ rfl, HE.defers, rfl⟩
 ·intro a w G1 hl HS HE hp
  obtain ⟨_, e2, rfl⟩ := hp 2 7 _ rfl rfl rfl; replace HE := HE.add e2
  refine o_ld HE rfl HS rfl T.s3 (.here .here) rfl ?_; clear HE; intro a HE
  exact ⟨_, _, _, Heap.le.refl _, HS, rfl, HE.get _ _ rfl, HE.defers, rfl⟩
 ·intro a w G1 hl HS HE hp
  obtain ⟨_, e1, rfl⟩ := hp 1 6 _ rfl rfl rfl; replace HE := HE.add e1
  obtain ⟨_, e3, rfl⟩ := hp 3 8 _ rfl rfl rfl; replace HE := HE.add e3
  refine o_callP HE rfl HS rfl rfl T.g36 (c_cmp_int x.k y.k _ _ HS.sub) ?_
  clear HE HS; rintro _ w a HS rfl HE
  exact ⟨_, _, _, Heap.le.refl _, HS, rfl, HE.get _ _ rfl, HE.defers, rfl⟩
 ·intro a w G1 hl HS HE hp
  refine o_fld HE rfl rfl T.f32_1 ?_; clear HE; intro a HE
  exact ⟨_, _, _, Heap.le.refl _, HS, rfl, HE.get _ _ rfl, HE.defers, rfl⟩
 ·intro a w G1 hl HS HE hp
  obtain ⟨_, e5, rfl⟩ := hp 5 10 _ rfl rfl rfl; replace HE := HE.add e5
  refine o_ld HE rfl HS rfl T.s2 (.there (.here .here)) rfl ?_; clear HE; intro a HE
  exact ⟨_, _, _, Heap.le.refl _, HS, rfl, HE.get _ _ rfl, HE.defers, rfl⟩
 ·intro a w G1 hl HS HE hp
  refine o_fld HE rfl rfl T.f32_1 ?_; clear HE; intro a HE
  exact ⟨_, _, _, Heap.le.refl _, HS, rfl, HE.get _ _ rfl, HE.defers, rfl⟩
 ·intro a w G1 hl HS HE hp
  obtain ⟨_, e7, rfl⟩ := hp 7 12 _ rfl rfl rfl; replace HE := HE.add e7
  refine o_ld HE rfl HS rfl T.s2 (.here .here) rfl ?_; clear HE; intro a HE
  exact ⟨_, _, _, Heap.le.refl _, HS, rfl, HE.get _ _ rfl, HE.defers, rfl⟩
 ·intro a w G1 hl HS HE hp
  obtain ⟨_, e6, rfl⟩ := hp 6 11 _ rfl rfl rfl; replace HE := HE.add e6
  obtain ⟨_, e8, rfl⟩ := hp 8 13 _ rfl rfl rfl; replace HE := HE.add e8
  refine o_callP HE rfl HS rfl rfl T.g37 (c_cmp_int64 x.n y.n _ _ HS.sub) ?_
  clear HE HS; rintro _ w a HS rfl HE
  exact ⟨_, _, _, Heap.le.refl _, HS, rfl, HE.get _ _ rfl, HE.defers, rfl⟩
 ·intro a w G1 hl HS HE hp
  refine o_fld HE rfl rfl T.f32_2 ?_; clear HE; intro a HE
  exact ⟨_, _, _, Heap.le.refl _, HS, rfl, HE.get _ _ rfl, HE.defers, rfl⟩
 ·intro a w G1 hl HS HE hp
  obtain ⟨_, e10, rfl⟩ := hp 10 15 _ rfl rfl rfl; replace HE := HE.add e10
  refine o_ld HE rfl HS rfl T.s9 (.there (.here .here)) rfl ?_; clear HE; intro a HE
  exact ⟨_, _, _, Heap.le.refl _, HS, rfl, HE.get _ _ rfl, HE.defers, rfl⟩
 ·intro a w G1 hl HS HE hp
  refine o_fld HE rfl rfl T.f32_2 ?_; clear HE; intro a HE
  exact ⟨_, _, _, Heap.le.refl _, HS, rfl, HE.get _ _ rfl, HE.defers, rfl⟩
 ·intro a w G1 hl HS HE hp
  obtain ⟨_, e12, rfl⟩ := hp 12 17 _ rfl rfl rfl; replace HE := HE.add e12
  refine o_ld HE rfl HS rfl T.s9 (.here .here) rfl ?_; clear HE; intro a HE
  exact ⟨_, _, _, Heap.le.refl _, HS, rfl, HE.get _ _ rfl, HE.defers, rfl⟩
 ·intro a w G1 hl HS HE hp
  obtain ⟨_, e11, rfl⟩ := hp 11 16 _ rfl rfl rfl; replace HE := HE.add e11
  obtain ⟨_, e13, rfl⟩ := hp 13 18 _ rfl rfl rfl; replace HE := HE.add e13
  refine o_callP HE rfl HS rfl rfl T.g38 (c_cmpStr x.s y.s _ _ HS.sub) ?_
  clear HE HS; rintro _ w a HS rfl HE
  exact ⟨_, _, _, Heap.le.refl _, HS, rfl, HE.get _ _ rfl, HE.defers, rfl⟩
 ·intro a w G1 hl HS HE hp
  obtain ⟨_, e4, rfl⟩ := hp 4 9 _ rfl rfl rfl; replace HE := HE.add e4
  obtain ⟨_, e9, rfl⟩ := hp 9 14 _ rfl rfl rfl; replace HE := HE.add e9
  obtain ⟨_, e14, rfl⟩ := hp 14 19 _ rfl rfl rfl; replace HE := HE.add e14
  refine o_buildSl (cs := #[.int .i64 (cmpI x.k y.k), .int .i64 (cmpI x.n y.n), .int .i64 (Lib.compareBytes x.s y.s)]) [(0, _), (1, _), (2, _)] HE rfl HS rfl T.l92 (by kernel_rfl) ⟨rfl, rfl, rfl, trivial⟩ ?_; clear HE HS; intro B20 w a HS HE
  obtain ⟨G2, hle2, hC2, HS'⟩ := HS.stillHead (n := 3) rfl
  exact ⟨_, G2, _, hle2, HS', rfl, HE.get _ _ rfl, HE.defers, ⟨_, _, rfl, Nat.le_refl _, Rd.ofCells hC2 ⟨rfl, rfl, rfl, rfl⟩⟩⟩
 ·intro a w G1 hl HS HE hp
  obtain ⟨_, e15, vA15, vc15, rfl, hcp15, hQ15⟩ := hp 15 20 _ rfl rfl rfl; replace HE := HE.add e15
  refine o_callP HE rfl HS rfl rfl T.g35 (c_or [cmpI x.k y.k, cmpI x.n y.n, Lib.compareBytes x.s y.s] _ _ _ _ HS.sub hQ15 (by simp)) ?_
  clear HE HS; rintro _ w a HS rfl HE
  exact ⟨_, _, _, Heap.le.refl _, HS, rfl, HE.get _ _ rfl, HE.defers, rfl⟩
 ·intro a w G1 hl HS HE hp
  obtain ⟨_, e16, rfl⟩ := hp 16 21 _ rfl rfl rfl; replace HE := HE.add e16
  refine o_assign HE rfl rfl ?_; clear HE; intro a HE
  exact ⟨_, _, _, Heap.le.refl _, HS, rfl, HE.get _ _ rfl, HE.defers, rfl⟩
 clear HE HS; intro a w G4 hle5 HS HE hp
 obtain ⟨_, e17, rfl⟩ := hp 17 4 _ rfl rfl; replace HE := HE.add e17
 clear hp
 refine hK2 _ _ ?_; clear hK2
 refine rt hQ HE HS ?_
 exact rfl

theorem gPow : Tryd.prog.globalNamed "internal/strconv.uint64pow10" = some 3 := by kernel_rfl
/-! `incognito/num.Print` -/
set_option maxRecDepth 100000 in
set_option maxHeartbeats 4000000 in
theorem c_print6 (n : Int) (w0 : World) (G : Heap) (hG : Sub G w0) (hn : I64 n) (hT : TabG G 3 .u64 Lib.pow10Tab):
  Calls Tryd.prog 19 #[.int .i64 n] w0 (Ret w0 G (fun v _ => v = str (Lib.itoa n))) := by
 refine enter Tryd.func19 rfl Tryd.ntmps19 rfl ?_
 intro Q hQ a HE
 have HS := St.start0 hG
 refine sr fun K hK => ?_
 refine rn 1 HE HS ?_; clear HE HS; intro a w HE HS
 apply hK; clear hK K
 refine sr fun K hK => ?_
 refine rn 1 HE HS ?_; clear HE HS; intro a w HE HS
 refine o_callP HE rfl HS rfl rfl T.g29 (calls_grow HS.sub (Tryd.strconv_FormatInt_10 n (by first | exact hn.1 | omega) (by first | exact hn.2 | omega) _ (TabG.is HS.sub gPow hT))) ?_
 clear HE HS; rintro _ w a HS rfl HE
 refine rn 1 HE HS ?_; clear HE HS; intro a w HE HS
 apply hK; clear hK K
 refine rt hQ HE HS ?_
 exact rfl

/-! `incognito/value.Right` -/
set_option maxRecDepth 100000 in
set_option maxHeartbeats 4000000 in
theorem c_right7 (x : Val) (w0 : World) (G : Heap) (hG : Sub G w0) (hg0 : CellsAt G 0 0 [.int .i64 3, .int .i64 1, str []]) (hg1 : CellsAt G 1 0 [.int .i64 3, .int .i64 0, str []]) (hv : x.Wf):
  Calls Tryd.prog 28 #[.agg #[.int .i64 x.k, .int .i64 x.n, str x.s]] w0 (Ret w0 G (fun v _ => v = .bool (rightV x))) := by
 refine enter Tryd.func28 rfl Tryd.ntmps28 rfl ?_
 intro Q hQ a HE
 have HS := St.start0 hG
 refine sr fun K hK => ?_
 refine o_bx3 HE rfl HS rfl ?_; clear HE HS; intro B1 w a HS HE
 refine rn 1 HE HS ?_; clear HE HS; intro a w HE HS
 apply hK; clear hK K
 refine wp_seq_k (fun K3 hK2 => ?_)
 refine sr fun K hK => ?_
 refine rn 2 HE HS ?_; clear HE HS; intro a w HE HS
 apply hK; clear hK K
 refine wp_block ?_
 refine sr fun K hK => ?_
 refine rn 2 HE HS ?_; clear HE HS; intro a w HE HS
 apply hK; clear hK K
 refine cond HE rfl (fun h6r => ?_) (fun h6r => ?_)
 ·have h6 := nm h6r
  refine sr fun K hK => ?_
  refine rn 1 HE HS ?_; clear HE HS; intro a w HE HS
  refine o_build (cs := #[.int .i64 0, .int .i64 0, str []]) HE rfl rfl (by kernel_rfl) ?_; clear HE; intro a HE
  refine o_eqA (b := decide (x.k = 0) && (decide (x.n = 0) && (x.s == [] && true))) HE rfl rfl rfl T.q32 rfl rfl ?_; clear HE; intro a HE
  refine rn 1 HE HS ?_; clear HE HS; intro a w HE HS
  apply hK; clear hK K
  refine rt hQ HE HS ?_
  show _ = _
  simp only [packed, Value.bool.injEq]
  symm
  unfold rightV
  rw [if_pos h6]
  first | rfl | (simp [h6]; done)
 ·have h6 := nm h6r
  refine sr fun K hK => ?_
  refine rn 2 HE HS ?_; clear HE HS; intro a w HE HS
  apply hK; clear hK K
  refine cond HE rfl (fun h9r => ?_) (fun h9r => ?_)
  ·have h9 := nm h9r
   refine sr fun K hK => ?_
   refine rn 4 HE HS ?_; clear HE HS; intro a w HE HS
   apply hK; clear hK K
   refine rt hQ HE HS ?_
   show _ = _
   simp only [packed, Value.bool.injEq]
   symm
   unfold rightV
   rw [if_neg h6]
   rw [if_pos h9]
   first | done | rfl | simp
  ·have h9 := nm h9r
   refine sr fun K hK => ?_
   refine rn 2 HE HS ?_; clear HE HS; intro a w HE HS
   apply hK; clear hK K
   refine cond HE rfl (fun h12r => ?_) (fun h12r => ?_)
   ·have h12 := nm h12r
    refine sr fun K hK => ?_
    refine rn 4 HE HS ?_; clear HE HS; intro a w HE HS
    refine cutG 4 24 (.bool ((decide (x.n = 0)) && (isWordB x.s))) HE HS ?_ ?_
    ·refine bsp HE (t := 20) rfl (fun hb13 => ?_) (fun hb13 => ?_)
     ·have hk14 := nm hb13
      refine rn 2 HE HS ?_; clear HE HS; intro a w HE HS
      refine op_on HE rfl rfl hb13 ?_
      refine o_callP HE rfl HS rfl rfl T.g39 (c_isWord x.s _ _ HS.sub (by first | omega | exact hv.s | (simp; done) | (simp; omega))) ?_
      clear HE HS; rintro _ w a HS rfl HE
      refine rn 1 HE HS ?_; clear HE HS; intro a w HE HS
      exact ⟨HS, HE.cutT (by rw [hb13] <;> rfl)⟩
     ·skip
      refine rn 4 HE HS ?_; clear HE HS; intro a w HE HS
      exact ⟨HS, HE.cutT (by rw [hb13] <;> rfl)⟩
    clear HE HS; intro a w HE HS
    refine rn 1 HE HS ?_; clear HE HS; intro a w HE HS
    apply hK; clear hK K
    refine rt hQ HE HS ?_
    show _ = _
    simp only [packed, Value.bool.injEq]
    symm
    unfold rightV
    rw [if_neg h6]
    rw [if_neg h9]
    rw [if_pos h12]
    first | done | rfl | simp
   ·have h12 := nm h12r
    refine wp_skip ?_
    refine hK2 _ _ ?_; clear hK2
    refine sr fun K hK => ?_
    refine rn 1 HE HS ?_; clear HE HS; intro a w HE HS
    refine o_ldIA HE rfl HS rfl hg0 T.a32 ?_; clear HE; intro a HE
    refine o_eqA (b := decide (x.k = 3) && (decide (x.n = 1) && (x.s == [] && true))) HE rfl rfl rfl T.q32 rfl rfl ?_; clear HE; intro a HE
    refine rn 1 HE HS ?_; clear HE HS; intro a w HE HS
    refine cutG 4 32 (.bool ((decide (x.k = 3) && (decide (x.n = 1) && (x.s == [] && true))) || (decide (x.k = 3) && (decide (x.n = 0) && (x.s == [] && true))))) HE HS ?_ ?_
    ·refine bsp HE (t := 28) rfl (fun hb16 => ?_) (fun hb16 => ?_)
     ·skip
      refine rn 4 HE HS ?_; clear HE HS; intro a w HE HS
      exact ⟨HS, HE.cutT (by rw [hb16] <;> rfl)⟩
     ·have hk17 := nm hb16
      refine rn 1 HE HS ?_; clear HE HS; intro a w HE HS
      refine op_on HE rfl rfl hb16 ?_
      refine o_ldIA HE rfl HS rfl hg1 T.a32 ?_; clear HE; intro a HE
      refine op_on HE rfl rfl hb16 ?_
      refine o_eqA (b := decide (x.k = 3) && (decide (x.n = 0) && (x.s == [] && true))) HE rfl rfl rfl T.q32 rfl rfl ?_; clear HE; intro a HE
      refine rn 1 HE HS ?_; clear HE HS; intro a w HE HS
      exact ⟨HS, HE.cutT (by rw [hb16] <;> rfl)⟩
    clear HE HS; intro a w HE HS
    refine rn 1 HE HS ?_; clear HE HS; intro a w HE HS
    apply hK; clear hK K
    refine rt hQ HE HS ?_
    show _ = _
    simp only [packed, Value.bool.injEq]
    symm
    unfold rightV
    rw [if_neg h6]
    rw [if_neg h9]
    rw [if_neg h12]
    by_cases h3 : x.k = 3
    ·rw [if_pos h3]; simp only [h3, decide_true, Bool.true_and, Bool.and_true]; cases decide (x.n = 0) <;> cases decide (x.n = 1) <;> cases (x.s == ([] : Bs)) <;> rfl
    ·rw [if_neg h3, decide_eq_false h3]; rfl

/-! `incognito/value.Print` -/
set_option maxRecDepth 100000 in
set_option maxHeartbeats 4000000 in
theorem c_print7 (x : Val) (w0 : World) (G : Heap) (hG : Sub G w0) (hg0 : CellsAt G 0 0 [.int .i64 3, .int .i64 1, str []]) (hg1 : CellsAt G 1 0 [.int .i64 3, .int .i64 0, str []]) (hT : TabG G 3 .u64 Lib.pow10Tab) (hv : x.Wf):
  Calls Tryd.prog 22 #[.agg #[.int .i64 x.k, .int .i64 x.n, str x.s]] w0 (Ret w0 G (fun v _ => v = str (printV x))) := by
 refine enter Tryd.func22 rfl Tryd.ntmps22 rfl ?_
 intro Q hQ a HE
 have HS := St.start0 hG
 refine sr fun K hK => ?_
 refine o_bx3 HE rfl HS rfl ?_; clear HE HS; intro B1 w a HS HE
 refine rn 1 HE HS ?_; clear HE HS; intro a w HE HS
 apply hK; clear hK K
 refine wp_seq_k (fun K3 hK2 => ?_)
 refine wp_block ?_
 refine sr fun K hK => ?_
 refine rn 1 HE HS ?_; clear HE HS; intro a w HE HS
 refine o_callP HE rfl HS rfl rfl T.g28 (c_right7 x _ _ HS.sub hg0 hg1 (by first | assumption | exact hv | (constructor <;> first | assumption | (simp only [I64]; omega) | (simp; omega)))) ?_
 clear HE HS; rintro _ w a HS rfl HE
 refine rn 2 HE HS ?_; clear HE HS; intro a w HE HS
 apply hK; clear hK K
 refine cond HE rfl (fun h5r => ?_) (fun h5r => ?_)
 ·have h5 := nm h5r
  refine sr fun K hK => ?_
  refine rn 1 HE HS ?_; clear HE HS; intro a w HE HS
  apply hK; clear hK K
  refine rt hQ HE HS ?_
  show _ = _
  unfold printV
  rw [if_pos h5]
  rfl
 ·have h5 := nm h5r
  refine sr fun K hK => ?_
  refine rn 4 HE HS ?_; clear HE HS; intro a w HE HS
  apply hK; clear hK K
  refine cond HE rfl (fun h8r => ?_) (fun h8r => ?_)
  ·have h8 := nm h8r
   refine sr fun K hK => ?_
   refine rn 1 HE HS ?_; clear HE HS; intro a w HE HS
   apply hK; clear hK K
   refine rt hQ HE HS ?_
   show _ = _
   unfold printV
   rw [if_neg (by rw [h5]; decide)]
   repeat (first | rw [if_pos (by omega)] | rw [if_neg (by omega)])
   first | done | rfl
  ·have h8 := nm h8r
   refine sr fun K hK => ?_
   refine rn 4 HE HS ?_; clear HE HS; intro a w HE HS
   apply hK; clear hK K
   refine cond HE rfl (fun h11r => ?_) (fun h11r => ?_)
   ·have h11 := nm h11r
    refine sr fun K hK => ?_
    refine rn 2 HE HS ?_; clear HE HS; intro a w HE HS
    refine o_callP HE rfl HS rfl rfl T.g19 (c_print6 x.n _ _ HS.sub (by first | assumption | exact hv.n | omega) hT) ?_
    clear HE HS; rintro _ w a HS rfl HE
    refine rn 1 HE HS ?_; clear HE HS; intro a w HE HS
    apply hK; clear hK K
    refine rt hQ HE HS ?_
    show _ = _
    unfold printV
    rw [if_neg (by rw [h5]; decide)]
    repeat (first | rw [if_pos (by omega)] | rw [if_neg (by omega)])
    first | done | rfl
   ·have h11 := nm h11r
    refine sr fun K hK => ?_
    refine rn 4 HE HS ?_; clear HE HS; intro a w HE HS
    apply hK; clear hK K
    refine cond HE rfl (fun h14r => ?_) (fun h14r => ?_)
    ·have h14 := nm h14r
     refine sr fun K hK => ?_
     refine rn 3 HE HS ?_; clear HE HS; intro a w HE HS
     apply hK; clear hK K
     refine rt hQ HE HS ?_
     show _ = _
     unfold printV
     rw [if_neg (by rw [h5]; decide)]
     repeat (first | rw [if_pos (by omega)] | rw [if_neg (by omega)])
     first | done | rfl
    ·have h14 := nm h14r
     refine sr fun K hK => ?_
     refine rn 1 HE HS ?_; clear HE HS; intro a w HE HS
     refine o_ldIA HE rfl HS rfl hg0 T.a32 ?_; clear HE; intro a HE
     refine o_eqA (b := decide (x.k = 3) && (decide (x.n = 1) && (x.s == [] && true))) HE rfl rfl rfl T.q32 rfl rfl ?_; clear HE; intro a HE
     refine rn 1 HE HS ?_; clear HE HS; intro a w HE HS
     apply hK; clear hK K
     refine cond HE rfl (fun h17r => ?_) (fun h17r => ?_)
     ·have h17 := nm h17r
      refine sr fun K hK => ?_
      refine rn 1 HE HS ?_; clear HE HS; intro a w HE HS
      apply hK; clear hK K
      refine rt hQ HE HS ?_
      have h3 := right3 h5 h8 h11 h14
      have hn1 : x.n = 1 := by have hz := h17r; simp at hz; exact hz.2.1
      show _ = _
      unfold printV
      rw [if_neg (by rw [h5]; decide)]
      repeat (first | rw [if_pos (by omega)] | rw [if_neg (by omega)])
      first | done | rfl
     ·have h17 := nm h17r
      refine wp_skip ?_
      refine hK2 _ _ ?_; clear hK2
      refine sr fun K hK => ?_
      refine rn 1 HE HS ?_; clear HE HS; intro a w HE HS
      apply hK; clear hK K
      refine rt hQ HE HS ?_
      have h3 := right3 h5 h8 h11 h14
      have hn1 : ¬ x.n = 1 := fun e => by have hz := h17r; rw [h3.1, h3.2, e] at hz; exact absurd hz (by decide)
      show _ = _
      unfold printV
      rw [if_neg (by rw [h5]; decide)]
      repeat (first | rw [if_pos (by omega)] | rw [if_neg (by omega)])
      first | done | rfl

/-! `incognito/policy.ruled` -/
set_option maxRecDepth 100000 in
set_option maxHeartbeats 4000000 in
theorem c_ruled (d : Int) (r : Rul) (w0 : World) (G : Heap) (hG : Sub G w0) :
  Calls Tryd.prog 27 #[.int .i64 d, .agg #[.int .i64 r.way, .int .i64 r.size]] w0 (Ret w0 G (fun v _ => v = .bool (ruledB d r))) := by
 refine enter Tryd.func27 rfl Tryd.ntmps27 rfl ?_
 intro Q hQ a HE
 have HS := St.start0 hG
 refine sr fun K hK => ?_
 refine o_bx2 HE rfl HS rfl ?_; clear HE HS; intro B3 w a HS HE
 refine rn 1 HE HS ?_; clear HE HS; intro a w HE HS
 apply hK; clear hK K
 refine wp_seq_k (fun K3 hK2 => ?_)
 refine sr fun K hK => ?_
 refine rn 2 HE HS ?_; clear HE HS; intro a w HE HS
 apply hK; clear hK K
 refine wp_block ?_
 refine sr fun K hK => ?_
 refine rn 2 HE HS ?_; clear HE HS; intro a w HE HS
 apply hK; clear hK K
 refine cond HE rfl (fun h6r => ?_) (fun h6r => ?_)
 ·have h6 := nm h6r
  refine sr fun K hK => ?_
  refine rn 4 HE HS ?_; clear HE HS; intro a w HE HS
  refine cutG 4 16 (.bool ((decide (1 ≤ r.size)) && (decide (r.size ≤ 16)))) HE HS ?_ ?_
  ·refine bsp HE (t := 12) rfl (fun hb7 => ?_) (fun hb7 => ?_)
   ·have hk8 := nm hb7
    refine rn 4 HE HS ?_; clear HE HS; intro a w HE HS
    exact ⟨HS, HE.cutT (by rw [hb7] <;> rfl)⟩
   ·skip
    refine rn 4 HE HS ?_; clear HE HS; intro a w HE HS
    exact ⟨HS, HE.cutT (by rw [hb7] <;> rfl)⟩
  clear HE HS; intro a w HE HS
  refine rn 1 HE HS ?_; clear HE HS; intro a w HE HS
  apply hK; clear hK K
  refine rt hQ HE HS ?_
  show _ = _
  simp only [packed, Value.bool.injEq]
  simp only [ruledB]
  first | (simp_all; done) | (simp_all; omega) | (grind)
 ·have h6 := nm h6r
  refine cutJ [(17, .bool ((decide (r.way = 0)) || (decide (r.way = 1))))] HE HS ?_ ?_
  ·skip
   refine sr fun K hK => ?_
   refine rn 2 HE HS ?_; clear HE HS; intro a w HE HS
   apply hK; clear hK K
   refine cond HE rfl (fun h11r => ?_) (fun h11r => ?_)
   ·have h11 := nm h11r
    refine wp_skip ?_
    exact ⟨HS, HE.cutX ⟨by first | rfl | (rw [h11r]; rfl) | (rw [h11r]; rfl) | (simp [h11r, lk]; done), trivial⟩⟩
   ·have h11 := nm h11r
    refine wp_region_lit ?_
    refine rn 2 HE HS ?_; clear HE HS; intro a w HE HS
    exact ⟨HS, HE.cutX ⟨by first | rfl | (rw [h11r]; rfl) | (rw [h11r]; rfl) | (simp [h11r, lk]; done), trivial⟩⟩
  clear HE HS; intro a w HE HS
  refine cond HE rfl (fun h12r => ?_) (fun h12r => ?_)
  ·have h12 := nm h12r
   refine sr fun K hK => ?_
   refine rn 4 HE HS ?_; clear HE HS; intro a w HE HS
   apply hK; clear hK K
   refine rt hQ HE HS ?_
   show _ = _
   simp only [packed, Value.bool.injEq]
   simp only [ruledB]
   first | (simp_all; done) | (simp_all; omega) | (grind)
  ·have h12 := nm h12r
   refine wp_skip ?_
   refine hK2 _ _ ?_; clear hK2
   refine sr fun K hK => ?_
   refine rn 4 HE HS ?_; clear HE HS; intro a w HE HS
   refine cutG 3 29 (.bool ((decide (r.way = 3)) && (decide (d = 4)))) HE HS ?_ ?_
   ·refine bsp HE (t := 26) rfl (fun hb14 => ?_) (fun hb14 => ?_)
    ·have hk15 := nm hb14
     refine rn 3 HE HS ?_; clear HE HS; intro a w HE HS
     exact ⟨HS, HE.cutT (by rw [hb14] <;> rfl)⟩
    ·skip
     refine rn 3 HE HS ?_; clear HE HS; intro a w HE HS
     exact ⟨HS, HE.cutT (by rw [hb14] <;> rfl)⟩
   clear HE HS; intro a w HE HS
   refine rn 1 HE HS ?_; clear HE HS; intro a w HE HS
   refine cutG 4 34 (.bool (((decide (r.way = 3)) && (decide (d = 4))) && (decide (r.size = 0)))) HE HS ?_ ?_
   ·refine bsp HE (t := 30) rfl (fun hb16 => ?_) (fun hb16 => ?_)
    ·have hk17 := nm hb16
     refine rn 4 HE HS ?_; clear HE HS; intro a w HE HS
     exact ⟨HS, HE.cutT (by rw [hb16] <;> rfl)⟩
    ·skip
     refine rn 4 HE HS ?_; clear HE HS; intro a w HE HS
     exact ⟨HS, HE.cutT (by rw [hb16] <;> rfl)⟩
   clear HE HS; intro a w HE HS
   refine rn 1 HE HS ?_; clear HE HS; intro a w HE HS
   apply hK; clear hK K
   refine rt hQ HE HS ?_
   show _ = _
   simp only [packed, Value.bool.injEq]
   simp only [ruledB]
   first | (simp_all; done) | (simp_all; omega) | (grind)

/-! `incognito/policy.Right` -/
set_option maxRecDepth 100000 in
set_option maxHeartbeats 4000000 in
theorem c_right (p : Pol) (w0 : World) (G : Heap) (hG : Sub G w0) :
  Calls Tryd.prog 15 #[.agg #[.int .i64 p.r0.way, .int .i64 p.r0.size, .int .i64 p.r1.way, .int .i64 p.r1.size, .int .i64 p.r2.way, .int .i64 p.r2.size, .int .i64 p.r3.way, .int .i64 p.r3.size, .int .i64 p.r4.way, .int .i64 p.r4.size, .int .i64 p.time, .int .i64 p.note, .bool p.loose, .bool p.force]] w0 (Ret w0 G (fun v _ => v = .bool (rightB p))) := by
 refine enter Tryd.func15 rfl Tryd.ntmps15 rfl ?_
 intro Q hQ a HE
 have HS := St.start0 hG
 refine sr fun K hK => ?_
 refine o_bx14 HE rfl HS rfl ?_; clear HE HS; intro B1 w a HS HE
 refine rn 1 HE HS ?_; clear HE HS; intro a w HE HS
 apply hK; clear hK K
 refine wp_seq_k (fun K3 hK2 => ?_)
 refine sr fun K hK => ?_
 refine rn 3 HE HS ?_; clear HE HS; intro a w HE HS
 apply hK; clear hK K
 refine wp_block ?_
 refine wp_loop_rounds 6 ?_
 rw [rounds_succ]
 refine sr fun K hK => ?_
 refine rn 1 HE HS ?_; clear HE HS; intro a w HE HS
 apply hK; clear hK K
 refine wp_seq_k (fun K7 hK6 => ?_)
 refine cond HE rfl (fun h8r => ?_) (fun h8r => ?_)
 ·have h8 := nm h8r
  refine wp_skip ?_
  refine hK6 _ _ ?_; clear hK6
  refine wp_seq_k (fun K10 hK9 => ?_)
  refine wp_block ?_
  refine sr fun K hK => ?_
  refine rn 1 HE HS ?_; clear HE HS; intro a w HE HS
  refine o_ixV HE rfl rfl rfl T.r51 Tryd.underlying51 (by decide) rfl (.inr ⟨T.a30, rfl⟩) ?_; clear HE; intro a HE
  refine o_allocZ HE rfl HS ?_; clear HE HS; intro B4 w a HS HE
  refine rn 2 HE HS ?_; clear HE HS; intro a w HE HS
  apply hK; clear hK K
  refine sr fun K hK => ?_
  refine rn 2 HE HS ?_; clear HE HS; intro a w HE HS
  refine o_callP HE rfl HS rfl rfl T.g27 (c_ruled 0 p.r0 _ _ HS.sub) ?_
  clear HE HS; rintro _ w a HS rfl HE
  refine rn 1 HE HS ?_; clear HE HS; intro a w HE HS
  apply hK; clear hK K
  refine cond HE rfl (fun h13r => ?_) (fun h13r => ?_)
  ·have h13 := nm h13r
   refine sr fun K hK => ?_
   refine rn 1 HE HS ?_; clear HE HS; intro a w HE HS
   apply hK; clear hK K
   refine rt hQ HE HS ?_
   show _ = _
   simp only [packed, Value.bool.injEq]
   simp only [rightB]
   first | (simp_all; done) | grind
  ·have h13 := nm h13r
   refine wp_skip ?_
   refine hK9 _ _ ?_; clear hK9
   refine wp_region_lit ?_
   refine rn 2 HE HS ?_; clear HE HS; intro a w HE HS
   show Code.rounds _ _ _ _ _ _
   replace HE := HE.cut (L' := [(1, .pointer (some ⟨B1, 0, none⟩)), (2, .bool false), (6, .agg #[.int .i64 p.r0.way, .int .i64 p.r0.size, .int .i64 p.r1.way, .int .i64 p.r1.size, .int .i64 p.r2.way, .int .i64 p.r2.size, .int .i64 p.r3.way, .int .i64 p.r3.size, .int .i64 p.r4.way, .int .i64 p.r4.size]), (7, .int .i64 1)]) ⟨rfl, rfl, rfl, rfl, trivial⟩
   rw [rounds_succ]
   refine sr fun K hK => ?_
   refine rn 1 HE HS ?_; clear HE HS; intro a w HE HS
   apply hK; clear hK K
   refine wp_seq_k (fun K17 hK16 => ?_)
   refine cond HE rfl (fun h18r => ?_) (fun h18r => ?_)
   ·have h18 := nm h18r
    refine wp_skip ?_
    refine hK16 _ _ ?_; clear hK16
    refine wp_seq_k (fun K20 hK19 => ?_)
    refine wp_block ?_
    refine sr fun K hK => ?_
    refine rn 1 HE HS ?_; clear HE HS; intro a w HE HS
    refine o_ixV HE rfl rfl rfl T.r51 Tryd.underlying51 (by decide) rfl (.inr ⟨T.a30, rfl⟩) ?_; clear HE; intro a HE
    refine o_allocZ HE rfl HS ?_; clear HE HS; intro B4_21 w a HS HE
    refine rn 2 HE HS ?_; clear HE HS; intro a w HE HS
    apply hK; clear hK K
    refine sr fun K hK => ?_
    refine rn 2 HE HS ?_; clear HE HS; intro a w HE HS
    refine o_callP HE rfl HS rfl rfl T.g27 (c_ruled 1 p.r1 _ _ HS.sub) ?_
    clear HE HS; rintro _ w a HS rfl HE
    refine rn 1 HE HS ?_; clear HE HS; intro a w HE HS
    apply hK; clear hK K
    refine cond HE rfl (fun h24r => ?_) (fun h24r => ?_)
    ·have h24 := nm h24r
     refine sr fun K hK => ?_
     refine rn 1 HE HS ?_; clear HE HS; intro a w HE HS
     apply hK; clear hK K
     refine rt hQ HE HS ?_
     show _ = _
     simp only [packed, Value.bool.injEq]
     simp only [rightB]
     first | (simp_all; done) | grind
    ·have h24 := nm h24r
     refine wp_skip ?_
     refine hK19 _ _ ?_; clear hK19
     refine wp_region_lit ?_
     refine rn 2 HE HS ?_; clear HE HS; intro a w HE HS
     show Code.rounds _ _ _ _ _ _
     replace HE := HE.cut (L' := [(1, .pointer (some ⟨B1, 0, none⟩)), (2, .bool false), (6, .agg #[.int .i64 p.r0.way, .int .i64 p.r0.size, .int .i64 p.r1.way, .int .i64 p.r1.size, .int .i64 p.r2.way, .int .i64 p.r2.size, .int .i64 p.r3.way, .int .i64 p.r3.size, .int .i64 p.r4.way, .int .i64 p.r4.size]), (7, .int .i64 2)]) ⟨rfl, rfl, rfl, rfl, trivial⟩
     rw [rounds_succ]
     refine sr fun K hK => ?_
     refine rn 1 HE HS ?_; clear HE HS; intro a w HE HS
     apply hK; clear hK K
     refine wp_seq_k (fun K28 hK27 => ?_)
     refine cond HE rfl (fun h29r => ?_) (fun h29r => ?_)
     ·have h29 := nm h29r
      refine wp_skip ?_
      refine hK27 _ _ ?_; clear hK27
      refine wp_seq_k (fun K31 hK30 => ?_)
      refine wp_block ?_
      refine sr fun K hK => ?_
      refine rn 1 HE HS ?_; clear HE HS; intro a w HE HS
      refine o_ixV HE rfl rfl rfl T.r51 Tryd.underlying51 (by decide) rfl (.inr ⟨T.a30, rfl⟩) ?_; clear HE; intro a HE
      refine o_allocZ HE rfl HS ?_; clear HE HS; intro B4_32 w a HS HE
      refine rn 2 HE HS ?_; clear HE HS; intro a w HE HS
      apply hK; clear hK K
      refine sr fun K hK => ?_
      refine rn 2 HE HS ?_; clear HE HS; intro a w HE HS
      refine o_callP HE rfl HS rfl rfl T.g27 (c_ruled 2 p.r2 _ _ HS.sub) ?_
      clear HE HS; rintro _ w a HS rfl HE
      refine rn 1 HE HS ?_; clear HE HS; intro a w HE HS
      apply hK; clear hK K
      refine cond HE rfl (fun h35r => ?_) (fun h35r => ?_)
      ·have h35 := nm h35r
       refine sr fun K hK => ?_
       refine rn 1 HE HS ?_; clear HE HS; intro a w HE HS
       apply hK; clear hK K
       refine rt hQ HE HS ?_
       show _ = _
       simp only [packed, Value.bool.injEq]
       simp only [rightB]
       first | (simp_all; done) | grind
      ·have h35 := nm h35r
       refine wp_skip ?_
       refine hK30 _ _ ?_; clear hK30
       refine wp_region_lit ?_
       refine rn 2 HE HS ?_; clear HE HS; intro a w HE HS
       show Code.rounds _ _ _ _ _ _
       replace HE := HE.cut (L' := [(1, .pointer (some ⟨B1, 0, none⟩)), (2, .bool false), (6, .agg #[.int .i64 p.r0.way, .int .i64 p.r0.size, .int .i64 p.r1.way, .int .i64 p.r1.size, .int .i64 p.r2.way, .int .i64 p.r2.size, .int .i64 p.r3.way, .int .i64 p.r3.size, .int .i64 p.r4.way, .int .i64 p.r4.size]), (7, .int .i64 3)]) ⟨rfl, rfl, rfl, rfl, trivial⟩
       rw [rounds_succ]
       refine sr fun K hK => ?_
       refine rn 1 HE HS ?_; clear HE HS; intro a w HE HS
       apply hK; clear hK K
       refine wp_seq_k (fun K39 hK38 => ?_)
       refine cond HE rfl (fun h40r => ?_) (fun h40r => ?_)
       ·have h40 := nm h40r
        refine wp_skip ?_
        refine hK38 _ _ ?_; clear hK38
        refine wp_seq_k (fun K42 hK41 => ?_)
        refine wp_block ?_
        refine sr fun K hK => ?_
        refine rn 1 HE HS ?_; clear HE HS; intro a w HE HS
        refine o_ixV HE rfl rfl rfl T.r51 Tryd.underlying51 (by decide) rfl (.inr ⟨T.a30, rfl⟩) ?_; clear HE; intro a HE
        refine o_allocZ HE rfl HS ?_; clear HE HS; intro B4_43 w a HS HE
        refine rn 2 HE HS ?_; clear HE HS; intro a w HE HS
        apply hK; clear hK K
        refine sr fun K hK => ?_
        refine rn 2 HE HS ?_; clear HE HS; intro a w HE HS
        refine o_callP HE rfl HS rfl rfl T.g27 (c_ruled 3 p.r3 _ _ HS.sub) ?_
        clear HE HS; rintro _ w a HS rfl HE
        refine rn 1 HE HS ?_; clear HE HS; intro a w HE HS
        apply hK; clear hK K
        refine cond HE rfl (fun h46r => ?_) (fun h46r => ?_)
        ·have h46 := nm h46r
         refine sr fun K hK => ?_
         refine rn 1 HE HS ?_; clear HE HS; intro a w HE HS
         apply hK; clear hK K
         refine rt hQ HE HS ?_
         show _ = _
         simp only [packed, Value.bool.injEq]
         simp only [rightB]
         first | (simp_all; done) | grind
        ·have h46 := nm h46r
         refine wp_skip ?_
         refine hK41 _ _ ?_; clear hK41
         refine wp_region_lit ?_
         refine rn 2 HE HS ?_; clear HE HS; intro a w HE HS
         show Code.rounds _ _ _ _ _ _
         replace HE := HE.cut (L' := [(1, .pointer (some ⟨B1, 0, none⟩)), (2, .bool false), (6, .agg #[.int .i64 p.r0.way, .int .i64 p.r0.size, .int .i64 p.r1.way, .int .i64 p.r1.size, .int .i64 p.r2.way, .int .i64 p.r2.size, .int .i64 p.r3.way, .int .i64 p.r3.size, .int .i64 p.r4.way, .int .i64 p.r4.size]), (7, .int .i64 4)]) ⟨rfl, rfl, rfl, rfl, trivial⟩
         rw [rounds_succ]
         refine sr fun K hK => ?_
         refine rn 1 HE HS ?_; clear HE HS; intro a w HE HS
         apply hK; clear hK K
         refine wp_seq_k (fun K50 hK49 => ?_)
         refine cond HE rfl (fun h51r => ?_) (fun h51r => ?_)
         ·have h51 := nm h51r
          refine wp_skip ?_
          refine hK49 _ _ ?_; clear hK49
          refine wp_seq_k (fun K53 hK52 => ?_)
          refine wp_block ?_
          refine sr fun K hK => ?_
          refine rn 1 HE HS ?_; clear HE HS; intro a w HE HS
          refine o_ixV HE rfl rfl rfl T.r51 Tryd.underlying51 (by decide) rfl (.inr ⟨T.a30, rfl⟩) ?_; clear HE; intro a HE
          refine o_allocZ HE rfl HS ?_; clear HE HS; intro B4_54 w a HS HE
          refine rn 2 HE HS ?_; clear HE HS; intro a w HE HS
          apply hK; clear hK K
          refine sr fun K hK => ?_
          refine rn 2 HE HS ?_; clear HE HS; intro a w HE HS
          refine o_callP HE rfl HS rfl rfl T.g27 (c_ruled 4 p.r4 _ _ HS.sub) ?_
          clear HE HS; rintro _ w a HS rfl HE
          refine rn 1 HE HS ?_; clear HE HS; intro a w HE HS
          apply hK; clear hK K
          refine cond HE rfl (fun h57r => ?_) (fun h57r => ?_)
          ·have h57 := nm h57r
           refine sr fun K hK => ?_
           refine rn 1 HE HS ?_; clear HE HS; intro a w HE HS
           apply hK; clear hK K
           refine rt hQ HE HS ?_
           show _ = _
           simp only [packed, Value.bool.injEq]
           simp only [rightB]
           first | (simp_all; done) | grind
          ·have h57 := nm h57r
           refine wp_skip ?_
           refine hK52 _ _ ?_; clear hK52
           refine wp_region_lit ?_
           refine rn 2 HE HS ?_; clear HE HS; intro a w HE HS
           show Code.rounds _ _ _ _ _ _
           replace HE := HE.cut (L' := [(1, .pointer (some ⟨B1, 0, none⟩)), (2, .bool false), (6, .agg #[.int .i64 p.r0.way, .int .i64 p.r0.size, .int .i64 p.r1.way, .int .i64 p.r1.size, .int .i64 p.r2.way, .int .i64 p.r2.size, .int .i64 p.r3.way, .int .i64 p.r3.size, .int .i64 p.r4.way, .int .i64 p.r4.size]), (7, .int .i64 5)]) ⟨rfl, rfl, rfl, rfl, trivial⟩
           rw [rounds_succ]
           refine sr fun K hK => ?_
           refine rn 1 HE HS ?_; clear HE HS; intro a w HE HS
           apply hK; clear hK K
           refine wp_seq_k (fun K61 hK60 => ?_)
           refine cond HE rfl (fun h62r => ?_) (fun h62r => ?_)
           ·exact absurd h62r (by decide)
           ·have h62 := nm h62r
            refine wp_exit ?_
            refine hK2 _ _ ?_; clear hK2
            refine sr fun K hK => ?_
            refine rn 4 HE HS ?_; clear HE HS; intro a w HE HS
            refine cutG 4 23 (.bool ((decide (p.time = 0)) || (decide (p.time = 3)))) HE HS ?_ ?_
            ·refine bsp HE (t := 19) rfl (fun hb63 => ?_) (fun hb63 => ?_)
             ·skip
              refine rn 4 HE HS ?_; clear HE HS; intro a w HE HS
              exact ⟨HS, HE.cutT (by rw [hb63] <;> rfl)⟩
             ·have hk64 := nm hb63
              refine rn 4 HE HS ?_; clear HE HS; intro a w HE HS
              exact ⟨HS, HE.cutT (by rw [hb63] <;> rfl)⟩
            clear HE HS; intro a w HE HS
            refine rn 1 HE HS ?_; clear HE HS; intro a w HE HS
            refine cutG 9 33 (.bool (((decide (p.time = 0)) || (decide (p.time = 3))) && ((decide (p.note = 0)) || (decide (p.note = 4))))) HE HS ?_ ?_
            ·refine bsp HE (t := 24) rfl (fun hb65 => ?_) (fun hb65 => ?_)
             ·have hk66 := nm hb65
              refine rn 4 HE HS ?_; clear HE HS; intro a w HE HS
              refine cutG 4 32 (.bool ((decide (p.note = 0)) || (decide (p.note = 4)))) HE HS ?_ ?_
              ·refine bsp HE (t := 28) rfl (fun hb67 => ?_) (fun hb67 => ?_)
               ·skip
                refine rn 4 HE HS ?_; clear HE HS; intro a w HE HS
                exact ⟨HS, HE.cutT (by rw [hb67] <;> rfl)⟩
               ·have hk68 := nm hb67
                refine rn 4 HE HS ?_; clear HE HS; intro a w HE HS
                exact ⟨HS, HE.cutT (by rw [hb67] <;> rfl)⟩
              clear HE HS; intro a w HE HS
              refine rn 1 HE HS ?_; clear HE HS; intro a w HE HS
              exact ⟨HS, HE.cutT (by rw [hb65] <;> rfl)⟩
             ·skip
              refine rn 9 HE HS ?_; clear HE HS; intro a w HE HS
              exact ⟨HS, HE.cutT (by rw [hb65] <;> rfl)⟩
            clear HE HS; intro a w HE HS
            refine rn 1 HE HS ?_; clear HE HS; intro a w HE HS
            apply hK; clear hK K
            refine rt hQ HE HS ?_
            show _ = _
            simp only [packed, Value.bool.injEq]
            simp only [rightB]
            first | (simp_all; done) | grind
         ·exact absurd h51r (by decide)
       ·exact absurd h40r (by decide)
     ·exact absurd h29r (by decide)
   ·exact absurd h18r (by decide)
 ·exact absurd h8r (by decide)

/-! `incognito/sign.Takes` -/
set_option maxRecDepth 100000 in
set_option maxHeartbeats 4000000 in
theorem c_takes (d : Int) (x : Val) (w0 : World) (G : Heap) (hG : Sub G w0) (hg0 : CellsAt G 0 0 [.int .i64 3, .int .i64 1, str []]) (hg1 : CellsAt G 1 0 [.int .i64 3, .int .i64 0, str []]) (hv : x.Wf):
  Calls Tryd.prog 16 #[.int .i64 d, .agg #[.int .i64 x.k, .int .i64 x.n, str x.s]] w0 (Ret w0 G (fun v _ => v = .bool (takesB d x))) := by
 refine enter Tryd.func16 rfl Tryd.ntmps16 rfl ?_
 intro Q hQ a HE
 have HS := St.start0 hG
 refine sr fun K hK => ?_
 refine o_bx3 HE rfl HS rfl ?_; clear HE HS; intro B3 w a HS HE
 refine rn 1 HE HS ?_; clear HE HS; intro a w HE HS
 apply hK; clear hK K
 refine wp_seq_k (fun K3 hK2 => ?_)
 refine sr fun K hK => ?_
 refine rn 1 HE HS ?_; clear HE HS; intro a w HE HS
 refine o_callP HE rfl HS rfl rfl T.g28 (c_right7 x _ _ HS.sub hg0 hg1 (by first | assumption | exact hv | (constructor <;> first | assumption | (simp only [I64]; omega) | (simp; omega)))) ?_
 clear HE HS; rintro _ w a HS rfl HE
 refine rn 1 HE HS ?_; clear HE HS; intro a w HE HS
 apply hK; clear hK K
 refine cond HE rfl (fun h5r => ?_) (fun h5r => ?_)
 ·have h5 := nm h5r
  refine sr fun K hK => ?_
  refine rn 1 HE HS ?_; clear HE HS; intro a w HE HS
  apply hK; clear hK K
  refine rt hQ HE HS ?_
  have e : takesB d x = false := by
   unfold takesB
   first | (simp_all; done) | (simp_all; omega) | grind
  show _ = _
  rw [e]
  rfl
 ·have h5 := nm h5r
  refine wp_skip ?_
  refine hK2 _ _ ?_; clear hK2
  refine wp_seq_k (fun K8 hK7 => ?_)
  refine sr fun K hK => ?_
  refine rn 1 HE HS ?_; clear HE HS; intro a w HE HS
  apply hK; clear hK K
  refine wp_block ?_
  refine wp_seq_k (fun K11 hK10 => ?_)
  refine sr fun K hK => ?_
  refine rn 2 HE HS ?_; clear HE HS; intro a w HE HS
  apply hK; clear hK K
  refine cond HE rfl (fun h13r => ?_) (fun h13r => ?_)
  ·have h13 := nm h13r
   refine wp_skip ?_
   refine hK10 _ _ ?_; clear hK10
   refine cond HE rfl (fun h14r => ?_) (fun h14r => ?_)
   ·have h14 := nm h14r
    refine sr fun K hK => ?_
    refine rn 4 HE HS ?_; clear HE HS; intro a w HE HS
    refine cutG 4 22 (.bool ((decide (x.k = 1)) || (decide (x.k = 2)))) HE HS ?_ ?_
    ·refine bsp HE (t := 18) rfl (fun hb15 => ?_) (fun hb15 => ?_)
     ·skip
      refine rn 4 HE HS ?_; clear HE HS; intro a w HE HS
      exact ⟨HS, HE.cutT (by rw [hb15] <;> rfl)⟩
     ·have hk16 := nm hb15
      refine rn 4 HE HS ?_; clear HE HS; intro a w HE HS
      exact ⟨HS, HE.cutT (by rw [hb15] <;> rfl)⟩
    clear HE HS; intro a w HE HS
    refine rn 1 HE HS ?_; clear HE HS; intro a w HE HS
    apply hK; clear hK K
    refine rt hQ HE HS ?_
    have e : takesB d x = ((decide (x.k = 1)) || (decide (x.k = 2))) := by
     unfold takesB
     first | (simp_all; done) | (simp_all; omega) | grind
    show _ = _
    rw [e]
    rfl
   ·exact absurd (h13r.symm.trans h14r) (by decide)
  ·have h13 := nm h13r
   refine sr fun K hK => ?_
   refine rn 2 HE HS ?_; clear HE HS; intro a w HE HS
   apply hK; clear hK K
   refine cond HE rfl (fun h19r => ?_) (fun h19r => ?_)
   ·have h19 := nm h19r
    refine wp_skip ?_
    refine hK10 _ _ ?_; clear hK10
    refine cond HE rfl (fun h20r => ?_) (fun h20r => ?_)
    ·have h20 := nm h20r
     refine sr fun K hK => ?_
     refine rn 4 HE HS ?_; clear HE HS; intro a w HE HS
     refine cutG 4 22 (.bool ((decide (x.k = 1)) || (decide (x.k = 2)))) HE HS ?_ ?_
     ·refine bsp HE (t := 18) rfl (fun hb21 => ?_) (fun hb21 => ?_)
      ·skip
       refine rn 4 HE HS ?_; clear HE HS; intro a w HE HS
       exact ⟨HS, HE.cutT (by rw [hb21] <;> rfl)⟩
      ·have hk22 := nm hb21
       refine rn 4 HE HS ?_; clear HE HS; intro a w HE HS
       exact ⟨HS, HE.cutT (by rw [hb21] <;> rfl)⟩
     clear HE HS; intro a w HE HS
     refine rn 1 HE HS ?_; clear HE HS; intro a w HE HS
     apply hK; clear hK K
     refine rt hQ HE HS ?_
     have e : takesB d x = ((decide (x.k = 1)) || (decide (x.k = 2))) := by
      unfold takesB
      first | (simp_all; done) | (simp_all; omega) | grind
     show _ = _
     rw [e]
     rfl
    ·exact absurd (h19r.symm.trans h20r) (by decide)
   ·have h19 := nm h19r
    refine sr fun K hK => ?_
    refine rn 2 HE HS ?_; clear HE HS; intro a w HE HS
    apply hK; clear hK K
    refine cond HE rfl (fun h25r => ?_) (fun h25r => ?_)
    ·have h25 := nm h25r
     refine wp_skip ?_
     refine hK10 _ _ ?_; clear hK10
     refine cond HE rfl (fun h26r => ?_) (fun h26r => ?_)
     ·have h26 := nm h26r
      refine sr fun K hK => ?_
      refine rn 4 HE HS ?_; clear HE HS; intro a w HE HS
      refine cutG 4 22 (.bool ((decide (x.k = 1)) || (decide (x.k = 2)))) HE HS ?_ ?_
      ·refine bsp HE (t := 18) rfl (fun hb27 => ?_) (fun hb27 => ?_)
       ·skip
        refine rn 4 HE HS ?_; clear HE HS; intro a w HE HS
        exact ⟨HS, HE.cutT (by rw [hb27] <;> rfl)⟩
       ·have hk28 := nm hb27
        refine rn 4 HE HS ?_; clear HE HS; intro a w HE HS
        exact ⟨HS, HE.cutT (by rw [hb27] <;> rfl)⟩
      clear HE HS; intro a w HE HS
      refine rn 1 HE HS ?_; clear HE HS; intro a w HE HS
      apply hK; clear hK K
      refine rt hQ HE HS ?_
      have e : takesB d x = ((decide (x.k = 1)) || (decide (x.k = 2))) := by
       unfold takesB
       first | (simp_all; done) | (simp_all; omega) | grind
      show _ = _
      rw [e]
      rfl
     ·exact absurd (h25r.symm.trans h26r) (by decide)
    ·have h25 := nm h25r
     refine sr fun K hK => ?_
     refine rn 2 HE HS ?_; clear HE HS; intro a w HE HS
     apply hK; clear hK K
     refine cond HE rfl (fun h31r => ?_) (fun h31r => ?_)
     ·have h31 := nm h31r
      refine wp_skip ?_
      refine hK10 _ _ ?_; clear hK10
      refine cond HE rfl (fun h32r => ?_) (fun h32r => ?_)
      ·have h32 := nm h32r
       refine sr fun K hK => ?_
       refine rn 4 HE HS ?_; clear HE HS; intro a w HE HS
       refine cutG 4 22 (.bool ((decide (x.k = 1)) || (decide (x.k = 2)))) HE HS ?_ ?_
       ·refine bsp HE (t := 18) rfl (fun hb33 => ?_) (fun hb33 => ?_)
        ·skip
         refine rn 4 HE HS ?_; clear HE HS; intro a w HE HS
         exact ⟨HS, HE.cutT (by rw [hb33] <;> rfl)⟩
        ·have hk34 := nm hb33
         refine rn 4 HE HS ?_; clear HE HS; intro a w HE HS
         exact ⟨HS, HE.cutT (by rw [hb33] <;> rfl)⟩
       clear HE HS; intro a w HE HS
       refine rn 1 HE HS ?_; clear HE HS; intro a w HE HS
       apply hK; clear hK K
       refine rt hQ HE HS ?_
       have e : takesB d x = ((decide (x.k = 1)) || (decide (x.k = 2))) := by
        unfold takesB
        first | (simp_all; done) | (simp_all; omega) | grind
       show _ = _
       rw [e]
       rfl
      ·exact absurd (h31r.symm.trans h32r) (by decide)
     ·have h31 := nm h31r
      refine wp_region_lit ?_
      refine rn 2 HE HS ?_; clear HE HS; intro a w HE HS
      refine hK10 _ _ ?_; clear hK10
      refine cond HE rfl (fun h36r => ?_) (fun h36r => ?_)
      ·have h36 := nm h36r
       refine sr fun K hK => ?_
       refine rn 4 HE HS ?_; clear HE HS; intro a w HE HS
       refine cutG 4 22 (.bool ((decide (x.k = 1)) || (decide (x.k = 2)))) HE HS ?_ ?_
       ·refine bsp HE (t := 18) rfl (fun hb37 => ?_) (fun hb37 => ?_)
        ·skip
         refine rn 4 HE HS ?_; clear HE HS; intro a w HE HS
         exact ⟨HS, HE.cutT (by rw [hb37] <;> rfl)⟩
        ·have hk38 := nm hb37
         refine rn 4 HE HS ?_; clear HE HS; intro a w HE HS
         exact ⟨HS, HE.cutT (by rw [hb37] <;> rfl)⟩
       clear HE HS; intro a w HE HS
       refine rn 1 HE HS ?_; clear HE HS; intro a w HE HS
       apply hK; clear hK K
       refine rt hQ HE HS ?_
       have e : takesB d x = ((decide (x.k = 1)) || (decide (x.k = 2))) := by
        unfold takesB
        first | (simp_all; done) | (simp_all; omega) | grind
       show _ = _
       rw [e]
       rfl
      ·have h36 := nm h36r
       refine sr fun K hK => ?_
       refine rn 2 HE HS ?_; clear HE HS; intro a w HE HS
       apply hK; clear hK K
       refine cond HE rfl (fun h41r => ?_) (fun h41r => ?_)
       ·have h41 := nm h41r
        refine sr fun K hK => ?_
        refine rn 4 HE HS ?_; clear HE HS; intro a w HE HS
        apply hK; clear hK K
        refine rt hQ HE HS ?_
        have e : takesB d x = (decide (x.k = 1)) := by
         unfold takesB
         first | (simp_all; done) | (simp_all; omega) | grind
        show _ = _
        rw [e]
        rfl
       ·have h41 := nm h41r
        refine wp_skip ?_
        refine hK7 _ _ ?_; clear hK7
        refine sr fun K hK => ?_
        refine rn 3 HE HS ?_; clear HE HS; intro a w HE HS
        refine cutG 4 34 (.bool ((decide (d = 6)) && (decide (x.k = 3)))) HE HS ?_ ?_
        ·refine bsp HE (t := 30) rfl (fun hb43 => ?_) (fun hb43 => ?_)
         ·have hk44 := nm hb43
          refine rn 4 HE HS ?_; clear HE HS; intro a w HE HS
          exact ⟨HS, HE.cutT (by rw [hb43] <;> rfl)⟩
         ·skip
          refine rn 4 HE HS ?_; clear HE HS; intro a w HE HS
          exact ⟨HS, HE.cutT (by rw [hb43] <;> rfl)⟩
        clear HE HS; intro a w HE HS
        refine rn 1 HE HS ?_; clear HE HS; intro a w HE HS
        apply hK; clear hK K
        refine rt hQ HE HS ?_
        have e : takesB d x = ((decide (d = 6)) && (decide (x.k = 3))) := by
         unfold takesB
         first | (simp_all; done) | (simp_all; omega) | grind
        show _ = _
        rw [e]
        rfl
end Go.Proofs.YtngoaapgdfohjaaDoor.T27
