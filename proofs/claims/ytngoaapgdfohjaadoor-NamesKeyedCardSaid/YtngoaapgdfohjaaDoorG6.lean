/- NamesRanks walked; its plain laws. -/
import Derived.Test.YtngoaapgdfohjaaDoorG5
set_option linter.unusedVariables false
set_option linter.unusedSimpArgs false
namespace Go.Proofs.YtngoaapgdfohjaaDoor.T27
open Go Go.Proofs.YtngoaapgdfohjaaDoor.X
theorem T.Q34 : flatG Tryd.prog 34 = some [.int .i64, .int .i64, .int .i64, .str, .int .i64, .int .i64, .str] := by kernel_rfl
instance : UN Tryd.prog 25 (.slice 34) := ⟨Tryd.underlying25⟩
instance : UN Tryd.prog 37 (.slice 5) := ⟨Tryd.underlying37⟩
theorem T.f34_2 : fieldOff Tryd.prog 34 2 = some 4 := by kernel_rfl
instance : FO Tryd.prog 34 2 4 := ⟨T.f34_2⟩
theorem T.g10 : goFn Tryd.prog 10 = true := by kernel_rfl
theorem T.g5 : goFn Tryd.prog 5 = true := by kernel_rfl
theorem T.g6 : goFn Tryd.prog 6 = true := by kernel_rfl
theorem T.g7 : goFn Tryd.prog 7 = true := by kernel_rfl
theorem T.g8 : goFn Tryd.prog 8 = true := by kernel_rfl

def ENT0 : Ent := ⟨0, ⟨0, 0, []⟩, ⟨0, 0, []⟩⟩
def greatN (kn : Nat) (xs : List Val) : Bool := xs.any (fun v => decide (100 < (v.s.length : Int))) || (decide (200 < (kn : Int)) || decide (40 < (xs.length : Int)))
theorem anyd {α : Type} {p : α → Bool} {l : List α} {i : Nat} {d : α} (hi : i < l.length) : (l.drop i).any p = (p (l.getD ((i : Nat) : Int).toNat d) || (l.drop (i + 1)).any p) := by
  rw [List.drop_eq_getElem_cons hi, List.any_cons]
  simp [hi]
theorem anye {α : Type} {p : α → Bool} {l : List α} {i : Nat} (hi : l.length ≤ i) : (l.drop i).any p = false := by rw [List.drop_eq_nil_of_le hi]; rfl
theorem greatN_len {kn : Nat} {xs : List Val} (h : greatN kn xs = false) : xs.length ≤ 40 ∧ kn ≤ 200 := by
  unfold greatN at h
  simp only [Bool.or_eq_false_iff, decide_eq_false_iff_not] at h
  omega
/-! Ranks. -/
theorem cv_self (x : Val) : ¬ compareV x x < 0 := by
  rw [cv_lt]
  have := TS.leV_of x x
  intro h
  have h2 : TS.leV x x = true := by have := TS.leV_total x x; simpa using this
  rw [TS.leV_of, h] at h2
  cases h2
theorem clV_lt {U : List Val} {x : Val} (h : x ∈ U) : clV U x < (U.length : Int) := by
  unfold clV
  have h1 : (U.filter fun y => decide (compareV y x < 0)).length < U.length := by
    rcases Nat.lt_or_ge (U.filter fun y => decide (compareV y x < 0)).length U.length with h2 | h2
    · exact h2
    · exfalso
      have h3 := List.filter_eq_self.1 ((List.filter_sublist (p := fun y => decide (compareV y x < 0)) (l := U)).eq_of_length_le h2) x h
      exact cv_self x (of_decide_eq_true h3)
  omega
theorem filter_lt {α : Type} (p q : α → Bool) : ∀ (l : List α) (x : α), (∀ y, p y = true → q y = true) → x ∈ l → p x = false → q x = true → (l.filter p).length < (l.filter q).length
  | [], x, _, hx, _, _ => by cases hx
  | y :: l, x, hpq, hx, hp, hq => by
    have hle : ∀ l : List α, (l.filter p).length ≤ (l.filter q).length := by
      intro l
      induction l with
      | nil => simp
      | cons z l ih =>
        simp only [List.filter_cons]
        by_cases hz : p z = true
        · rw [if_pos hz, if_pos (hpq z hz)]; simp; exact ih
        · rw [if_neg hz]
          split
          · simp; omega
          · exact ih
    simp only [List.filter_cons]
    rcases List.mem_cons.1 hx with rfl | hx
    · rw [if_neg (by simp [hp]), if_pos hq]
      have := hle l
      simp only [List.length_cons]; omega
    · have := filter_lt p q l x hpq hx hp hq
      by_cases hz : p y = true
      · rw [if_pos hz, if_pos (hpq y hz)]; simp only [List.length_cons]; omega
      · rw [if_neg hz]
        split
        · simp only [List.length_cons]; omega
        · exact this
theorem less_self (x : Val) : lessV x x = false := by
  cases h : lessV x x with
  | false => rfl
  | true => exact absurd ((cv_lt x x).2 h) (cv_self x)
theorem less_trans {x y z : Val} (h1 : lessV x y = true) (h2 : lessV y z = true) : lessV x z = true := by
  cases h : lessV x z with
  | true => rfl
  | false =>
    have h4 : TS.leV z x = true := by rw [TS.leV_of, h]; rfl
    have h5 := TS.leV_trans (TS.leV_less h2) h4
    rw [TS.leV_of, h1] at h5
    cases h5
theorem clV_mono {U : List Val} {x y : Val} (hx : x ∈ U) (h : lessV x y = true) : clV U x < clV U y := by
  unfold clV
  have := filter_lt (fun z => decide (compareV z x < 0)) (fun z => decide (compareV z y < 0)) U x (fun z hz => by
    have h1 := (cv_lt z x).1 (of_decide_eq_true hz)
    exact decide_eq_true ((cv_lt z y).2 (less_trans h1 h))) hx (decide_eq_false (cv_self x)) (decide_eq_true ((cv_lt x y).2 h))
  omega
theorem less_or {x y : Val} (h : lessV x y = false) (hne : x ≠ y) : lessV y x = true := by
  cases h2 : lessV y x with
  | true => rfl
  | false =>
    have h3 : TS.leV y x = true := by rw [TS.leV_of, h]; rfl
    have h4 : TS.leV x y = true := by rw [TS.leV_of, h2]; rfl
    exact absurd (TS.leV_anti h4 h3) hne
theorem rank_eq {U : List Val} {x y : Val} (hx : x ∈ U) (hy : y ∈ U) (hne : x ≠ y) : lessV x y = decide (clV U x < clV U y) ∧ clV U x ≠ clV U y := by
  cases h : lessV x y with
  | true =>
    have := clV_mono hx h
    exact ⟨(decide_eq_true this).symm, by omega⟩
  | false =>
    have := clV_mono hy (less_or h hne)
    exact ⟨(decide_eq_false (by omega)).symm, by omega⟩
theorem ent_eq {x y : Ent} (h : (decide (x.dom = y.dom) && (decide (x.name.k = y.name.k) && (decide (x.name.n = y.name.n) && (x.name.s == y.name.s && (decide (x.real.k = y.real.k) && (decide (x.real.n = y.real.n) && (x.real.s == y.real.s && true))))))) = true) : x = y := by
  obtain ⟨d, ⟨k, n, s⟩, ⟨k2, n2, s2⟩⟩ := x
  obtain ⟨d', ⟨k', n', s'⟩, ⟨k2', n2', s2'⟩⟩ := y
  simp at h
  obtain ⟨rfl, rfl, rfl, rfl, rfl, rfl, rfl⟩ := h
  rfl
theorem name_ne {a b : Val} (h : a ≠ b) : (decide (a.k = b.k) && (decide (a.n = b.n) && (a.s == b.s && true))) = false := by
  cases e : (decide (a.k = b.k) && (decide (a.n = b.n) && (a.s == b.s && true))) with
  | false => rfl
  | true => exact absurd (val_eq e) h
def R3 : Rul := ⟨3, 0⟩
theorem nameR3 (l : List Val) (i : Nat) : nameN R3 4 l i = ⟨1, clV l (l.getD i ⟨0, 0, []⟩) + 1, []⟩ := by unfold nameN; rw [if_neg (by decide)]
theorem getD_ne {l : List Val} (h : l.Nodup) {i k : Nat} (hi : i < l.length) (hk : k < i) : l.getD i ⟨0, 0, []⟩ ≠ l.getD k ⟨0, 0, []⟩ := by
  intro e
  rw [List.getD_eq_getElem?_getD, List.getElem?_eq_getElem hi, List.getD_eq_getElem?_getD, List.getElem?_eq_getElem (by omega : k < l.length)] at e
  simp only [Option.getD_some] at e
  have := (List.nodup_iff_pairwise_ne.1 h)
  exact List.pairwise_iff_getElem.1 this k i (by omega) hi hk e.symm
theorem names3 (l : List Val) (hl : l.Nodup) : ∀ n, n ≤ l.length → (namesN R3 4 l n).Nodup
  | 0, _ => List.nodup_nil
  | n + 1, h => by
    refine nodup_step (names3 l hl n (by omega)) ?_
    intro hm
    unfold namesN at hm
    obtain ⟨k, hk, he⟩ := List.mem_map.1 hm
    rw [List.mem_range] at hk
    rw [nameR3, nameR3] at he
    simp only [Val.mk.injEq, true_and, and_true] at he
    have h1 := rank_eq (U := l) (vmem (d := ⟨0, 0, []⟩) (by omega : n < l.length)) (vmem (d := ⟨0, 0, []⟩) (by omega : k < l.length)) (getD_ne hl (by omega) hk)
    exact h1.2 (by omega)
theorem build3 (xs : List Val) : buildN R3 4 xs = (entsN R3 4 (unlikeL 4 xs) (unlikeL 4 xs).length, 0) := by
  unfold buildN
  rw [if_neg (by decide), if_neg (by decide), if_pos (names3 _ unlike_nodup _ (Nat.le_refl _))]
theorem ents_at {l : List Val} {i : Nat} (hi : i < l.length) : (entsN R3 4 l l.length).getD i ENT0 = ⟨4, ⟨1, clV l (l.getD i ⟨0, 0, []⟩) + 1, []⟩, l.getD i ⟨0, 0, []⟩⟩ := by
  unfold entsN
  rw [List.getD_eq_getElem?_getD, List.getElem?_eq_getElem (by simp [hi])]
  simp only [Option.getD_some, List.getElem_map, List.getElem_range]
  unfold entN
  rw [nameR3]
theorem ranks_one {xs : List Val} {i : Nat} (hi : i < (buildN R3 4 xs).1.length) : ((buildN R3 4 xs).1.getD i ENT0).name.k = 1 ∧ 1 ≤ ((buildN R3 4 xs).1.getD i ENT0).name.n ∧ ((buildN R3 4 xs).1.getD i ENT0).name.n ≤ ((buildN R3 4 xs).1.length : Int) := by
  rw [build3] at hi ⊢
  simp only [entsN_len] at hi ⊢
  rw [ents_at hi]
  have h1 := clV_lt (vmem (d := ⟨0, 0, []⟩) hi)
  have h2 := clV_rng (unlikeL 4 xs) ((unlikeL 4 xs).getD i ⟨0, 0, []⟩)
  refine ⟨rfl, ?_, ?_⟩
  · show 1 ≤ clV _ _ + 1; omega
  · show clV _ _ + 1 ≤ _; omega
theorem ranks_two {xs : List Val} {i k : Nat} (hi : i < (buildN R3 4 xs).1.length) (hk : k < i) : lessV ((buildN R3 4 xs).1.getD i ENT0).real ((buildN R3 4 xs).1.getD k ENT0).real = decide (((buildN R3 4 xs).1.getD i ENT0).name.n < ((buildN R3 4 xs).1.getD k ENT0).name.n) ∧ ((buildN R3 4 xs).1.getD i ENT0).name ≠ ((buildN R3 4 xs).1.getD k ENT0).name := by
  rw [build3] at hi ⊢
  simp only [entsN_len] at hi ⊢
  rw [ents_at hi, ents_at (by omega)]
  have h1 := rank_eq (U := unlikeL 4 xs) (vmem (d := ⟨0, 0, []⟩) hi) (vmem (d := ⟨0, 0, []⟩) (by omega : k < (unlikeL 4 xs).length)) (getD_ne unlike_nodup hi hk)
  refine ⟨?_, ?_⟩
  · show lessV _ _ = decide (clV _ _ + 1 < clV _ _ + 1)
    rw [h1.1]
    by_cases h : clV (unlikeL 4 xs) ((unlikeL 4 xs).getD i ⟨0, 0, []⟩) < clV (unlikeL 4 xs) ((unlikeL 4 xs).getD k ⟨0, 0, []⟩)
    · rw [decide_eq_true h, decide_eq_true (by omega)]
    · rw [decide_eq_false h, decide_eq_false (by omega)]
  · intro e
    simp only [Val.mk.injEq, true_and, and_true] at e
    exact h1.2 (by omega)
/-! `incognito/incognitolaw27.great` -/
set_option maxRecDepth 100000 in
set_option maxHeartbeats 4000000 in
theorem c_greatN (Ak : Option Addr) (kn kc : Nat) (xs : List Val) (A : Option Addr) (c : Nat) (w0 : World) (G : Heap) (hG : Sub G w0) (hR : Rd kVal G A xs) (hl : xs.length ≤ 9223372036854775807):
  Calls Tryd.prog 6 #[.slice Ak kn kc, .slice A xs.length c] w0 (Ret w0 G (fun v _ => v = .bool (greatN kn xs))) := by
 refine enter Tryd.func6 rfl Tryd.ntmps6 rfl ?_
 intro Q hQ a HE
 have HS := St.start0 hG
 refine sr fun K hK => ?_
 refine rn 1 HE HS ?_; clear HE HS; intro a w HE HS
 apply hK; clear hK K
 refine wp_seq_k (fun K3 hK2 => ?_)
 refine sr fun K hK => ?_
 refine rn 3 HE HS ?_; clear HE HS; intro a w HE HS
 apply hK; clear hK K
 refine wp_block ?_
 refine loop (fun (i : Nat) a' w' => St w0 G [] G w' [] ∧ Env a' 26 [] [(0, .slice Ak kn kc), (1, .slice A xs.length c), (7, .slice A xs.length c), (8, .int .i64 (xs.length : Int)), (9, .int .i64 ((i : Nat) : Int))] ∧ (i ≤ xs.length ∧ xs.any (fun v => decide (100 < (v.s.length : Int))) = (xs.drop i).any (fun v => decide (100 < (v.s.length : Int))))) (fun (i : Nat) => xs.length - i) 0 ⟨HS, HE.cut ⟨rfl, rfl, rfl, rfl, rfl, trivial⟩, ⟨Nat.zero_le _, rfl⟩⟩ ?_
 clear HE HS; intro i a w ⟨HS, HE, ⟨hi, hfi⟩⟩
 refine sr fun K hK => ?_
 refine rn 1 HE HS ?_; clear HE HS; intro a w HE HS
 apply hK; clear hK K
 refine wp_seq_k (fun K8 hK7 => ?_)
 refine cond HE rfl (fun h9r => ?_) (fun h9r => ?_)
 ·have h9 := nm h9r
  refine wp_skip ?_
  refine hK7 _ _ ?_; clear hK7
  refine wp_seq_k (fun K11 hK10 => ?_)
  refine wp_block ?_
  refine sr fun K hK => ?_
  have hi12 : ((i : Nat) : Int).toNat < xs.length := by omega
  obtain ⟨eb12, eo12, hA12, el12⟩ := Rd.at hR (List.getElem?_eq_getElem hi12); cases hA12
  rw [show xs[((i : Nat) : Int).toNat] = (xs.getD i ⟨0, 0, []⟩) from getD_get (i := i) hi12 _] at el12
  have el12 := kVal_open el12
  refine o_ixL HE rfl rfl rfl T.l22 ⟨by omega, by omega⟩ ?_; clear HE; intro a HE
  refine o_ldIA HE rfl HS rfl el12 T.a32 ?_; clear HE; intro a HE
  refine o_allocZ HE rfl HS ?_; clear HE HS; intro B6 w a HS HE
  refine rn 1 HE HS ?_; clear HE HS; intro a w HE HS
  apply hK; clear hK K
  refine sr fun K hK => ?_
  refine rn 4 HE HS ?_; clear HE HS; intro a w HE HS
  apply hK; clear hK K
  refine cond HE rfl (fun h15r => ?_) (fun h15r => ?_)
  ·have h15 := nm h15r
   refine sr fun K hK => ?_
   refine rn 1 HE HS ?_; clear HE HS; intro a w HE HS
   apply hK; clear hK K
   refine rt hQ HE HS ?_
   show _ = _
   simp only [packed, Value.bool.injEq]
   unfold greatN
   rw [hfi, anyd (d := ⟨0, 0, []⟩) (by omega), show decide ((100 : Int) < _) = true from decide_eq_true (by simpa using h15)]
   simp
  ·have h15 := nm h15r
   refine wp_skip ?_
   refine hK10 _ _ ?_; clear hK10
   refine wp_region_lit ?_
   refine rn 2 HE HS ?_; clear HE HS; intro a w HE HS
   replace HS := HS.drop (M' := []) (sub_drop sub_nil)
   have hst := hfi
   rw [anyd (d := ⟨0, 0, []⟩) (by omega), show decide ((100 : Int) < _) = false from decide_eq_false (by simpa using h15), Bool.false_or] at hst
   exact ⟨i + 1, ⟨HS, HE.cut ⟨rfl, rfl, rfl, rfl, rfl, trivial⟩, ⟨by omega, hst⟩⟩, by omega⟩
 ·have h9 := nm h9r
  refine wp_exit ?_
  refine hK2 _ _ ?_; clear hK2
  refine sr fun K hK => ?_
  refine rn 4 HE HS ?_; clear HE HS; intro a w HE HS
  refine cutG 4 25 (.bool ((decide (200 < (kn : Int))) || (decide (40 < (xs.length : Int))))) HE HS ?_ ?_
  ·refine bsp HE (t := 21) rfl (fun hb17 => ?_) (fun hb17 => ?_)
   ·skip
    refine rn 4 HE HS ?_; clear HE HS; intro a w HE HS
    exact ⟨HS, HE.cutT (by rw [hb17] <;> rfl)⟩
   ·have hk18 := nm hb17
    refine rn 4 HE HS ?_; clear HE HS; intro a w HE HS
    exact ⟨HS, HE.cutT (by rw [hb17] <;> rfl)⟩
  clear HE HS; intro a w HE HS
  refine rn 1 HE HS ?_; clear HE HS; intro a w HE HS
  apply hK; clear hK K
  refine rt hQ HE HS ?_
  show _ = _
  simp only [packed, Value.bool.injEq]
  unfold greatN
  rw [hfi, anye (by omega), Bool.false_or]

/-! `incognito/incognitoref27.Same` -/
set_option maxRecDepth 100000 in
set_option maxHeartbeats 4000000 in
theorem c_Same27 (xa : List Ent) (Aa : Option Addr) (ca : Nat) (xb : List Ent) (Ab : Option Addr) (cb : Nat) (w0 : World) (G : Heap) (hG : Sub G w0) (hRxa : Rd kEnt G Aa xa) (hlxa : xa.length ≤ 9223372036854775807) (hRxb : Rd kEnt G Ab xb) (hlxb : xb.length ≤ 9223372036854775807):
  Calls Tryd.prog 10 #[.slice Aa xa.length ca, .slice Ab xb.length cb] w0 (Ret w0 G (fun v _ => v = .bool (decide (xa = xb)))) := by
 refine enter Tryd.func10 rfl Tryd.ntmps10 rfl ?_
 intro Q hQ a HE
 have HS := St.start0 hG
 refine sr fun K hK => ?_
 refine rn 1 HE HS ?_; clear HE HS; intro a w HE HS
 apply hK; clear hK K
 refine wp_seq_k (fun K3 hK2 => ?_)
 refine sr fun K hK => ?_
 refine rn 5 HE HS ?_; clear HE HS; intro a w HE HS
 apply hK; clear hK K
 refine cond HE rfl (fun h5r => ?_) (fun h5r => ?_)
 ·have h5 := nm h5r
  refine sr fun K hK => ?_
  refine rn 1 HE HS ?_; clear HE HS; intro a w HE HS
  apply hK; clear hK K
  refine rt hQ HE HS ?_
  show _ = _
  simp only [packed, Value.bool.injEq]
  exact (decide_eq_false fun e => by subst e; omega).symm
 ·have h5 := nm h5r
  refine wp_skip ?_
  refine hK2 _ _ ?_; clear hK2
  refine wp_seq_k (fun K8 hK7 => ?_)
  refine sr fun K hK => ?_
  refine rn 1 HE HS ?_; clear HE HS; intro a w HE HS
  apply hK; clear hK K
  refine wp_block ?_
  refine loop (fun (i : Nat) a' w' => St w0 G [] G w' [] ∧ Env a' 26 [] [(0, .slice Aa xa.length ca), (1, .slice Ab xb.length cb), (4, .bool false), (5, .int .i64 ((i : Nat) : Int))] ∧ (i ≤ xa.length ∧ xa.take i = xb.take i)) (fun (i : Nat) => xa.length - i) 0 ⟨HS, HE.cut ⟨rfl, rfl, rfl, rfl, trivial⟩, ⟨Nat.zero_le _, rfl⟩⟩ ?_
  clear HE HS; intro i a w ⟨HS, HE, ⟨hi, ht⟩⟩
  refine wp_seq_k (fun K12 hK11 => ?_)
  refine sr fun K hK => ?_
  refine rn 4 HE HS ?_; clear HE HS; intro a w HE HS
  apply hK; clear hK K
  refine cond HE rfl (fun h14r => ?_) (fun h14r => ?_)
  ·have h14 := nm h14r
   refine wp_skip ?_
   refine hK11 _ _ ?_; clear hK11
   refine wp_seq_k (fun K16 hK15 => ?_)
   refine wp_block ?_
   refine wp_seq_k (fun K18 hK17 => ?_)
   have hi19 : ((i : Nat) : Int).toNat < xa.length := by omega
   obtain ⟨eb19, eo19, hA19, el19⟩ := Rd.at hRxa (List.getElem?_eq_getElem hi19); cases hA19
   rw [show xa[((i : Nat) : Int).toNat] = (xa.getD i ⟨0, ⟨0, 0, []⟩, ⟨0, 0, []⟩⟩) from getD_get (i := i) hi19 _] at el19
   have el19 := kEnt_open el19
   have hi20 : ((i : Nat) : Int).toNat < xb.length := by omega
   obtain ⟨eb20, eo20, hA20, el20⟩ := Rd.at hRxb (List.getElem?_eq_getElem hi20); cases hA20
   rw [show xb[((i : Nat) : Int).toNat] = (xb.getD i ⟨0, ⟨0, 0, []⟩, ⟨0, 0, []⟩⟩) from getD_get (i := i) hi20 _] at el20
   have el20 := kEnt_open el20
   refine drawnP [fun v => v = .slice (some ⟨eb19, eo19, none⟩) xa.length ca, fun v => v = .int .i64 ((i : Nat) : Int), fun v => v = .pointer (some ⟨eb19, eo19 + ((i : Nat) : Int).toNat * 7, none⟩), fun v => v = .agg #[.int .i64 ((xa.getD i ⟨0, ⟨0, 0, []⟩, ⟨0, 0, []⟩⟩).dom), .int .i64 ((xa.getD i ⟨0, ⟨0, 0, []⟩, ⟨0, 0, []⟩⟩).name.k), .int .i64 ((xa.getD i ⟨0, ⟨0, 0, []⟩, ⟨0, 0, []⟩⟩).name.n), str ((xa.getD i ⟨0, ⟨0, 0, []⟩, ⟨0, 0, []⟩⟩).name.s), .int .i64 ((xa.getD i ⟨0, ⟨0, 0, []⟩, ⟨0, 0, []⟩⟩).real.k), .int .i64 ((xa.getD i ⟨0, ⟨0, 0, []⟩, ⟨0, 0, []⟩⟩).real.n), str ((xa.getD i ⟨0, ⟨0, 0, []⟩, ⟨0, 0, []⟩⟩).real.s)], fun v => v = .slice (some ⟨eb20, eo20, none⟩) xb.length cb, fun v => v = .int .i64 ((i : Nat) : Int), fun v => v = .pointer (some ⟨eb20, eo20 + ((i : Nat) : Int).toNat * 7, none⟩), fun v => v = .agg #[.int .i64 ((xb.getD i ⟨0, ⟨0, 0, []⟩, ⟨0, 0, []⟩⟩).dom), .int .i64 ((xb.getD i ⟨0, ⟨0, 0, []⟩, ⟨0, 0, []⟩⟩).name.k), .int .i64 ((xb.getD i ⟨0, ⟨0, 0, []⟩, ⟨0, 0, []⟩⟩).name.n), str ((xb.getD i ⟨0, ⟨0, 0, []⟩, ⟨0, 0, []⟩⟩).name.s), .int .i64 ((xb.getD i ⟨0, ⟨0, 0, []⟩, ⟨0, 0, []⟩⟩).real.k), .int .i64 ((xb.getD i ⟨0, ⟨0, 0, []⟩, ⟨0, 0, []⟩⟩).real.n), str ((xb.getD i ⟨0, ⟨0, 0, []⟩, ⟨0, 0, []⟩⟩).real.s)], fun v => v = .bool (!(decide (((xa.getD i ⟨0, ⟨0, 0, []⟩, ⟨0, 0, []⟩⟩).dom) = ((xb.getD i ⟨0, ⟨0, 0, []⟩, ⟨0, 0, []⟩⟩).dom)) && (decide (((xa.getD i ⟨0, ⟨0, 0, []⟩, ⟨0, 0, []⟩⟩).name.k) = ((xb.getD i ⟨0, ⟨0, 0, []⟩, ⟨0, 0, []⟩⟩).name.k)) && (decide (((xa.getD i ⟨0, ⟨0, 0, []⟩, ⟨0, 0, []⟩⟩).name.n) = ((xb.getD i ⟨0, ⟨0, 0, []⟩, ⟨0, 0, []⟩⟩).name.n)) && (((xa.getD i ⟨0, ⟨0, 0, []⟩, ⟨0, 0, []⟩⟩).name.s) == ((xb.getD i ⟨0, ⟨0, 0, []⟩, ⟨0, 0, []⟩⟩).name.s) && (decide (((xa.getD i ⟨0, ⟨0, 0, []⟩, ⟨0, 0, []⟩⟩).real.k) = ((xb.getD i ⟨0, ⟨0, 0, []⟩, ⟨0, 0, []⟩⟩).real.k)) && (decide (((xa.getD i ⟨0, ⟨0, 0, []⟩, ⟨0, 0, []⟩⟩).real.n) = ((xb.getD i ⟨0, ⟨0, 0, []⟩, ⟨0, 0, []⟩⟩).real.n)) && (((xa.getD i ⟨0, ⟨0, 0, []⟩, ⟨0, 0, []⟩⟩).real.s) == ((xb.getD i ⟨0, ⟨0, 0, []⟩, ⟨0, 0, []⟩⟩).real.s) && true))))))))] T.mix rfl HE HS rfl ⟨?_, ?_, ?_, ?_, ?_, ?_, ?_, ?_, ?_, trivial⟩ ?_
   ·intro a w G1 hl HS HE hp
    refine o_move HE rfl rfl ?_; clear HE; intro a HE
    exact ⟨_, _, HS, rfl, HE.get _ _ rfl, HE.defers, rfl⟩
   ·intro a w G1 hl HS HE hp
    refine o_move HE rfl rfl ?_; clear HE; intro a HE
    exact ⟨_, _, HS, rfl, HE.get _ _ rfl, HE.defers, rfl⟩
   ·intro a w G1 hl HS HE hp
    obtain ⟨_, e0, rfl⟩ := hp 0 17 _ rfl rfl rfl; replace HE := HE.add e0
    obtain ⟨_, e1, rfl⟩ := hp 1 18 _ rfl rfl rfl; replace HE := HE.add e1
    refine o_ixL HE rfl rfl rfl T.l25 ⟨by omega, by omega⟩ ?_; clear HE; intro a HE
    exact ⟨_, _, HS, rfl, HE.get _ _ rfl, HE.defers, rfl⟩
   ·intro a w G1 hl HS HE hp
    obtain ⟨_, e2, rfl⟩ := hp 2 19 _ rfl rfl rfl; replace HE := HE.add e2
    refine o_ldIA HE rfl HS rfl (el19.le hl) T.a34 ?_; clear HE; intro a HE
    exact ⟨_, _, HS, rfl, HE.get _ _ rfl, HE.defers, rfl⟩
   ·intro a w G1 hl HS HE hp
    refine o_move HE rfl rfl ?_; clear HE; intro a HE
    exact ⟨_, _, HS, rfl, HE.get _ _ rfl, HE.defers, rfl⟩
   ·intro a w G1 hl HS HE hp
    refine o_move HE rfl rfl ?_; clear HE; intro a HE
    exact ⟨_, _, HS, rfl, HE.get _ _ rfl, HE.defers, rfl⟩
   ·intro a w G1 hl HS HE hp
    obtain ⟨_, e4, rfl⟩ := hp 4 21 _ rfl rfl rfl; replace HE := HE.add e4
    obtain ⟨_, e5, rfl⟩ := hp 5 22 _ rfl rfl rfl; replace HE := HE.add e5
    refine o_ixL HE rfl rfl rfl T.l25 ⟨by omega, by omega⟩ ?_; clear HE; intro a HE
    exact ⟨_, _, HS, rfl, HE.get _ _ rfl, HE.defers, rfl⟩
   ·intro a w G1 hl HS HE hp
    obtain ⟨_, e6, rfl⟩ := hp 6 23 _ rfl rfl rfl; replace HE := HE.add e6
    refine o_ldIA HE rfl HS rfl (el20.le hl) T.a34 ?_; clear HE; intro a HE
    exact ⟨_, _, HS, rfl, HE.get _ _ rfl, HE.defers, rfl⟩
   ·intro a w G1 hl HS HE hp
    obtain ⟨_, e3, rfl⟩ := hp 3 20 _ rfl rfl rfl; replace HE := HE.add e3
    obtain ⟨_, e7, rfl⟩ := hp 7 24 _ rfl rfl rfl; replace HE := HE.add e7
    refine o_neG (b := decide (((xa.getD i ⟨0, ⟨0, 0, []⟩, ⟨0, 0, []⟩⟩).dom) = ((xb.getD i ⟨0, ⟨0, 0, []⟩, ⟨0, 0, []⟩⟩).dom)) && (decide (((xa.getD i ⟨0, ⟨0, 0, []⟩, ⟨0, 0, []⟩⟩).name.k) = ((xb.getD i ⟨0, ⟨0, 0, []⟩, ⟨0, 0, []⟩⟩).name.k)) && (decide (((xa.getD i ⟨0, ⟨0, 0, []⟩, ⟨0, 0, []⟩⟩).name.n) = ((xb.getD i ⟨0, ⟨0, 0, []⟩, ⟨0, 0, []⟩⟩).name.n)) && (((xa.getD i ⟨0, ⟨0, 0, []⟩, ⟨0, 0, []⟩⟩).name.s) == ((xb.getD i ⟨0, ⟨0, 0, []⟩, ⟨0, 0, []⟩⟩).name.s) && (decide (((xa.getD i ⟨0, ⟨0, 0, []⟩, ⟨0, 0, []⟩⟩).real.k) = ((xb.getD i ⟨0, ⟨0, 0, []⟩, ⟨0, 0, []⟩⟩).real.k)) && (decide (((xa.getD i ⟨0, ⟨0, 0, []⟩, ⟨0, 0, []⟩⟩).real.n) = ((xb.getD i ⟨0, ⟨0, 0, []⟩, ⟨0, 0, []⟩⟩).real.n)) && (((xa.getD i ⟨0, ⟨0, 0, []⟩, ⟨0, 0, []⟩⟩).real.s) == ((xb.getD i ⟨0, ⟨0, 0, []⟩, ⟨0, 0, []⟩⟩).real.s) && true))))))) HE rfl rfl rfl T.Q34 rfl rfl ?_; clear HE; intro a HE
    exact ⟨_, _, HS, rfl, HE.get _ _ rfl, HE.defers, rfl⟩
   clear HE HS; intro a w HS HE hp
   obtain ⟨_, e8, rfl⟩ := hp 8 25 _ rfl rfl; replace HE := HE.add e8
   clear hp
   refine hK17 _ _ ?_; clear hK17
   refine cond HE rfl (fun h21r => ?_) (fun h21r => ?_)
   ·have h21 := nm h21r
    refine sr fun K hK => ?_
    refine rn 1 HE HS ?_; clear HE HS; intro a w HE HS
    apply hK; clear hK K
    refine rt hQ HE HS ?_
    show _ = _
    simp only [packed, Value.bool.injEq]
    exact (decide_eq_false fun e => by subst e; simp at h21).symm
   ·have h21 := nm h21r
    refine wp_skip ?_
    refine hK15 _ _ ?_; clear hK15
    refine wp_region_lit ?_
    refine rn 3 HE HS ?_; clear HE HS; intro a w HE HS
    have hq : xa.getD i ⟨0, ⟨0, 0, []⟩, ⟨0, 0, []⟩⟩ = xb.getD i ⟨0, ⟨0, 0, []⟩, ⟨0, 0, []⟩⟩ := ent_eq (by have := h21r; rwa [Bool.not_eq_false'] at this)
    have ht2 : xa.take (i + 1) = xb.take (i + 1) := take_snoc_eq7 ht (by omega) (by omega) (by rw [getD_get (xs := xa) (i := i) (by omega) ⟨0, ⟨0, 0, []⟩, ⟨0, 0, []⟩⟩, getD_get (xs := xb) (i := i) (by omega) ⟨0, ⟨0, 0, []⟩, ⟨0, 0, []⟩⟩]; exact hq)
    exact ⟨i + 1, ⟨HS, HE.cut ⟨rfl, rfl, rfl, rfl, trivial⟩, ⟨by omega, ht2⟩⟩, by omega⟩
  ·have h14 := nm h14r
   refine wp_exit ?_
   refine hK7 _ _ ?_; clear hK7
   refine sr fun K hK => ?_
   refine rn 1 HE HS ?_; clear HE HS; intro a w HE HS
   apply hK; clear hK K
   refine rt hQ HE HS ?_
   show _ = _
   simp only [packed, Value.bool.injEq]
   exact (decide_eq_true (by rwa [List.take_of_length_le (by omega), List.take_of_length_le (by omega)] at ht)).symm

/-! `incognito/incognitolaw27.wakes` -/
set_option maxRecDepth 100000 in
set_option maxHeartbeats 4000000 in
theorem c_wakes27  (w0 : World) (G : Heap) (hG : Sub G w0) (hg0 : CellsAt G 0 0 [.int .i64 3, .int .i64 1, str []]) (hg1 : CellsAt G 1 0 [.int .i64 3, .int .i64 0, str []]) (hT : TabG G 3 .u64 Lib.pow10Tab):
  Calls Tryd.prog 5 #[] w0 (Ret w0 G (fun v _ => v = .bool true)) := by
 refine enter Tryd.func5 rfl Tryd.ntmps5 rfl ?_
 intro Q hQ a HE
 have HS := St.start0 hG
 refine sr fun K hK => ?_
 refine rn 1 HE HS ?_; clear HE HS; intro a w HE HS
 apply hK; clear hK K
 refine sr fun K hK => ?_
 refine o_build (cs := #[.int .i64 1, .int .i64 7, str []]) HE rfl rfl (by kernel_rfl) ?_; clear HE; intro a HE
 refine o_build (cs := #[.int .i64 2, .int .i64 0, str [97]]) HE rfl rfl (by kernel_rfl) ?_; clear HE; intro a HE
 refine o_allocZ HE rfl HS ?_; clear HE HS; intro B1 w a HS HE
 refine o_allocZ HE rfl HS ?_; clear HE HS; intro B2 w a HS HE
 refine rn 2 HE HS ?_; clear HE HS; intro a w HE HS
 apply hK; clear hK K
 refine sr fun K hK => ?_
 refine o_build (cs := #[.int .i64 1, .int .i64 0]) HE rfl rfl (by kernel_rfl) ?_; clear HE; intro a HE
 refine rn 3 HE HS ?_; clear HE HS; intro a w HE HS
 refine o_buildSl (cs := #[.int .i64 1, .int .i64 7, str [], .int .i64 2, .int .i64 0, str [97], .int .i64 1, .int .i64 7, str []]) [(0, _), (1, _), (2, _), (3, _), (4, _), (5, _), (6, _), (7, _), (8, _)] HE rfl HS rfl T.l22 (by kernel_rfl) ⟨rfl, rfl, rfl, rfl, rfl, rfl, rfl, rfl, rfl, trivial⟩ ?_; clear HE HS; intro B12 w a HS HE
 obtain ⟨G3, hle5, hC4, HS'⟩ := HS.stillHead (n := 9) rfl; clear HS; have HS := HS'; clear HS'
 replace hg0 := hg0.le hle5
 replace hg1 := hg1.le hle5
 replace hT := hT.le hle5
 have hW6 := Rd.ofCells (K := kVal) (xs := [(⟨1, 7, []⟩ : Val), (⟨2, 0, [97]⟩ : Val), (⟨1, 7, []⟩ : Val)]) hC4 ⟨rfl, rfl, rfl, rfl⟩
 refine o_call HE rfl HS rfl rfl T.g7 (c_buildN ⟨1, 0⟩ 2 _ _ _ [(⟨1, 7, []⟩ : Val), (⟨2, 0, [97]⟩ : Val), (⟨1, 7, []⟩ : Val)] _ _ _ _ HS.sub hg0 hg1 hT hW6 (by first | omega | decide | (simp; done)) (by first | assumption | (simp; done) | (intro v hv; simp only [List.mem_cons, List.not_mem_nil, or_false] at hv; rcases hv with rfl | rfl | rfl <;> exact ⟨by decide, by decide, by decide⟩)) (by first | assumption | decide) (by first | assumption | decide)) ?_
 clear HE HS; rintro _ G7 w a HS hle7 ⟨vA7, vc7, rfl, hcp7, hR7⟩ HE
 replace hg0 := hg0.le hle7
 replace hg1 := hg1.le hle7
 replace hT := hT.le hle7
 replace hC4 := hC4.le hle7
 replace hW6 := hW6.le hle7
 refine rn 5 HE HS ?_; clear HE HS; intro a w HE HS
 apply hK; clear hK K
 refine sr fun K hK => ?_
 refine rn 3 HE HS ?_; clear HE HS; intro a w HE HS
 refine cutGG 10 28 (.bool ((decide (((buildN ⟨1, 0⟩ 2 [(⟨1, 7, []⟩ : Val), (⟨2, 0, [97]⟩ : Val), (⟨1, 7, []⟩ : Val)]).2) = 0)) && (decide ((buildN ⟨1, 0⟩ 2 [(⟨1, 7, []⟩ : Val), (⟨2, 0, [97]⟩ : Val), (⟨1, 7, []⟩ : Val)]).1 = [(⟨2, ⟨2, 0, [118, 49]⟩, ⟨1, 7, []⟩⟩ : Ent), (⟨2, ⟨2, 0, [118, 50]⟩, ⟨2, 0, [97]⟩⟩ : Ent)])))) HE HS ?_ ?_
 ·refine bsp HE (t := 18) rfl (fun hb9 => ?_) (fun hb9 => ?_)
  ·have hk10 := nm hb9
   refine rn 1 HE HS ?_; clear HE HS; intro a w HE HS
   refine op_on HE rfl rfl hb9 ?_
   refine o_build (cs := #[.int .i64 2, .int .i64 0, str [118, 49]]) HE rfl rfl (by kernel_rfl) ?_; clear HE; intro a HE
   refine rn 1 HE HS ?_; clear HE HS; intro a w HE HS
   refine op_on HE rfl rfl hb9 ?_
   refine o_build (cs := #[.int .i64 2, .int .i64 2, .int .i64 0, str [118, 49], .int .i64 1, .int .i64 7, str []]) HE rfl rfl (by kernel_rfl) ?_; clear HE; intro a HE
   refine op_on HE rfl rfl hb9 ?_
   refine o_build (cs := #[.int .i64 2, .int .i64 0, str [118, 50]]) HE rfl rfl (by kernel_rfl) ?_; clear HE; intro a HE
   refine rn 1 HE HS ?_; clear HE HS; intro a w HE HS
   refine op_on HE rfl rfl hb9 ?_
   refine o_build (cs := #[.int .i64 2, .int .i64 2, .int .i64 0, str [118, 50], .int .i64 2, .int .i64 0, str [97]]) HE rfl rfl (by kernel_rfl) ?_; clear HE; intro a HE
   refine op_on HE rfl rfl hb9 ?_
   refine o_buildSl (cs := #[.int .i64 2, .int .i64 2, .int .i64 0, str [118, 49], .int .i64 1, .int .i64 7, str [], .int .i64 2, .int .i64 2, .int .i64 0, str [118, 50], .int .i64 2, .int .i64 0, str [97]]) [(0, _), (1, _), (2, _), (3, _), (4, _), (5, _), (6, _), (7, _), (8, _), (9, _), (10, _), (11, _), (12, _), (13, _)] HE rfl HS rfl T.l25 (by kernel_rfl) ⟨rfl, rfl, rfl, rfl, rfl, rfl, rfl, rfl, rfl, rfl, rfl, rfl, rfl, rfl, trivial⟩ ?_; clear HE HS; intro B26 w a HS HE
   obtain ⟨G11, hle13, hC12, HS'⟩ := HS.stillHead (n := 14) rfl; clear HS; have HS := HS'; clear HS'
   replace hg0 := hg0.le hle13
   replace hg1 := hg1.le hle13
   replace hT := hT.le hle13
   replace hC4 := hC4.le hle13
   replace hW6 := hW6.le hle13
   replace hR7 := hR7.le hle13
   have hW14 := Rd.ofCells (K := kEnt) (xs := [(⟨2, ⟨2, 0, [118, 49]⟩, ⟨1, 7, []⟩⟩ : Ent), (⟨2, ⟨2, 0, [118, 50]⟩, ⟨2, 0, [97]⟩⟩ : Ent)]) hC12 ⟨rfl, rfl, rfl⟩
   refine op_on HE rfl rfl hb9 ?_
   refine o_callP HE rfl HS rfl rfl T.g10 (c_Same27 ((buildN ⟨1, 0⟩ 2 [(⟨1, 7, []⟩ : Val), (⟨2, 0, [97]⟩ : Val), (⟨1, 7, []⟩ : Val)]).1) _ _ [(⟨2, ⟨2, 0, [118, 49]⟩, ⟨1, 7, []⟩⟩ : Ent), (⟨2, ⟨2, 0, [118, 50]⟩, ⟨2, 0, [97]⟩⟩ : Ent)] _ _ _ _ HS.sub hR7 (by first | omega | (simp; done) | decide +kernel) hW14 (by first | omega | (simp; done) | decide +kernel)) ?_
   clear HE HS; rintro _ w a HS rfl HE
   refine rn 1 HE HS ?_; clear HE HS; intro a w HE HS
   exact ⟨_, hle13, HS, HE.cutT (by rw [hb9] <;> rfl)⟩
  ·skip
   refine rn 10 HE HS ?_; clear HE HS; intro a w HE HS
   exact ⟨_, (Heap.le.refl _), HS, HE.cutT (by rw [hb9] <;> rfl)⟩
 clear HE HS; intro a w G15 hle16 HE HS
 replace hg0 := hg0.le hle16
 replace hg1 := hg1.le hle16
 replace hT := hT.le hle16
 replace hC4 := hC4.le hle16
 replace hW6 := hW6.le hle16
 replace hR7 := hR7.le hle16
 refine rn 1 HE HS ?_; clear HE HS; intro a w HE HS
 apply hK; clear hK K
 refine rt hQ HE HS ?_
 show _ = _
 simp only [packed, Value.bool.injEq]
 decide +kernel

end Go.Proofs.YtngoaapgdfohjaaDoor.T27
