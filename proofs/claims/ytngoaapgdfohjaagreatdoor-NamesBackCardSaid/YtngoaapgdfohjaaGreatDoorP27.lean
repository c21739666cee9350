/- Own text. -/
import Derived.Test.YtngoaapgdfohjaaGreatDoorP1
import Derived.Test.YtngoaapgdfohjaaGreatDoorK18
import Derived.Test.YtngoaapgdfohjaaGreatDoorTN9
import Derived.Test.YtngoaapgdfohjaaGreatDoorY12
set_option linter.unusedVariables false
set_option linter.unusedSimpArgs false
namespace Go.Proofs.YtngoaapgdfohjaaGreatDoor.T27
open Go Go.Proofs.YtngoaapgdfohjaaGreatDoor.X Go.Proofs Go.Proofs.YtngoaapgdfohjaaGreatDoor.T28 Go.Proofs.YtngoaapgdfohjaaGreatDoor.TS
/-! ## Names: plain laws -/
def letterS (d : Int) : Bs := if (decide (d < 0) || decide (4 < d)) = true then [] else sub [99, 107, 118, 102, 111] d (d + 1)
def setP (d : Int) (r : Rul) : Pol := ⟨if d = 0 then r else ⟨0, 0⟩, if d = 1 then r else ⟨0, 0⟩, if d = 2 then r else ⟨0, 0⟩, if d = 3 then r else ⟨0, 0⟩, if d = 4 then r else ⟨0, 0⟩, 0, 0, false, false⟩
def mayB (r : Rul) (d : Int) : Bool := if (letterS d == []) = true then false else rightB (setP d r)
theorem letter_out {d : Int} (h : ¬ (0 ≤ d ∧ d ≤ 4)) : letterS d = [] := by
  unfold letterS
  rw [if_pos (by simp; omega)]
/-! The values that a domain takes, each once. -/
def addU (d : Int) (acc : List Val) (v : Val) : List Val := if (v ∈ acc) ∨ takesB d v = false then acc else acc ++ [v]
def unlikeL (d : Int) (xs : List Val) : List Val := xs.foldl (addU d) []
theorem unlike_step {d : Int} {xs : List Val} {i : Nat} (hi : i < xs.length) : unlikeL d (xs.take (i + 1)) = addU d (unlikeL d (xs.take i)) (xs.getD i ⟨0, 0, []⟩) := by
  unfold unlikeL
  rw [List.take_add_one, List.foldl_append, List.getElem?_eq_getElem hi]
  simp [hi]
def posG : Int → List Val → Val → Option Int
  | _, [], _ => none
  | n, x :: r, v => if v = x then some n else posG (n + 1) r v
def posF (l : List Val) : Val → Option Int := posG 0 l
theorem posF_none : posF [] = fun _ => none := rfl
theorem posG_some : ∀ (n : Int) (l : List Val) (v : Val), (posG n l v).isSome = decide (v ∈ l)
  | _, [], v => by simp [posG]
  | n, x :: r, v => by
    unfold posG
    by_cases h : v = x
    · simp [h]
    · rw [if_neg h, posG_some (n + 1) r v]
      simp [h]
theorem posF_some {l : List Val} {v : Val} : (posF l v).isSome = decide (v ∈ l) := posG_some 0 l v
theorem posG_add : ∀ (n : Int) (l : List Val) (v c : Val), ¬ v ∈ l → posG n (l ++ [v]) c = if c = v then some (n + (l.length : Int)) else posG n l c
  | n, [], v, c, _ => by simp [posG]
  | n, x :: r, v, c, h => by
    simp only [List.mem_cons, not_or] at h
    rw [List.cons_append]
    unfold posG
    by_cases hx : c = x
    · subst hx
      rw [if_pos rfl, if_pos rfl, if_neg (fun e => h.1 e.symm)]
    · rw [if_neg hx, if_neg hx, posG_add (n + 1) r v c h.2]
      simp only [List.length_cons]
      rw [show n + 1 + (r.length : Int) = n + ((r.length + 1 : Nat) : Int) by omega]
theorem posF_add {l : List Val} {v : Val} (h : ¬ v ∈ l) : upd (posF l) v (some ((l.length : Nat) : Int)) = posF (l ++ [v]) := by
  funext c
  unfold upd posF
  rw [posG_add 0 l v c h]
  simp
theorem unlike_len (d : Int) (xs : List Val) : (unlikeL d xs).length ≤ xs.length := by
  unfold unlikeL
  suffices h : ∀ (xs acc : List Val), (xs.foldl (addU d) acc).length ≤ acc.length + xs.length by
    have := h xs []
    simpa using this
  intro xs
  induction xs with
  | nil => intro acc; simp
  | cons x xs ih =>
    intro acc
    rw [List.foldl_cons]
    have h1 := ih (addU d acc x)
    have h2 : (addU d acc x).length ≤ acc.length + 1 := by unfold addU; split <;> simp
    simp only [List.length_cons]
    omega
theorem unlike_mem {d : Int} : ∀ {xs : List Val} {v : Val}, v ∈ unlikeL d xs → v ∈ xs ∧ takesB d v = true := by
  suffices h : ∀ (xs acc : List Val) (v : Val), v ∈ xs.foldl (addU d) acc → v ∈ acc ∨ (v ∈ xs ∧ takesB d v = true) by
    intro xs v hv
    rcases h xs [] v hv with h1 | h1
    · cases h1
    · exact h1
  intro xs
  induction xs with
  | nil => intro acc v hv; exact .inl hv
  | cons x xs ih =>
    intro acc v hv
    rw [List.foldl_cons] at hv
    rcases ih _ _ hv with h1 | ⟨h1, h2⟩
    · unfold addU at h1
      split at h1
      · exact .inl h1
      · rename_i hn
        rcases List.mem_append.1 h1 with h3 | h3
        · exact .inl h3
        · rw [List.mem_singleton] at h3
          subst h3
          exact .inr ⟨List.mem_cons_self, by simp only [not_or, Bool.not_eq_false] at hn; exact hn.2⟩
    · exact .inr ⟨List.mem_cons_of_mem _ h1, h2⟩
theorem unlike_nodup {d : Int} {xs : List Val} : (unlikeL d xs).Nodup := by
  unfold unlikeL
  suffices h : ∀ (xs acc : List Val), acc.Nodup → (xs.foldl (addU d) acc).Nodup from h xs [] List.nodup_nil
  intro xs
  induction xs with
  | nil => intro acc h; exact h
  | cons x xs ih =>
    intro acc h
    rw [List.foldl_cons]
    refine ih _ ?_
    unfold addU
    split
    · exact h
    · rename_i hn
      rw [List.nodup_append]
      refine ⟨h, by simp, ?_⟩
      intro a ha b hb e
      rw [List.mem_singleton] at hb
      subst hb e
      exact hn (.inl ha)
theorem vmem {l : List Val} {i : Nat} {d : Val} (h : i < l.length) : l.getD i d ∈ l := by
  rw [List.getD_eq_getElem?_getD, List.getElem?_eq_getElem h]
  exact List.getElem_mem h
/-! The search in a sorted list. -/
def clV (xs : List Val) (t : Val) : Int := ((xs.filter fun x => decide (compareV x t < 0)).length : Int)
def fndV (xs : List Val) (t : Val) : Bool := decide (clV xs t < (xs.length : Int)) && decide (compareV (xs.getD (clV xs t).toNat ⟨0, 0, []⟩) t = 0)
theorem clV_at {xs : List Val} {t : Val} {i : Nat} (hi : i ≤ xs.length) (h1 : ∀ k, k < i → compareV (xs.getD k ⟨0, 0, []⟩) t < 0) (h2 : ∀ k, i ≤ k → k < xs.length → ¬ compareV (xs.getD k ⟨0, 0, []⟩) t < 0) : clV xs t = (i : Int) := by
  unfold clV
  have e : xs = xs.take i ++ xs.drop i := (List.take_append_drop i xs).symm
  rw [e, List.filter_append, List.length_append]
  have a1 : (xs.take i).filter (fun x => decide (compareV x t < 0)) = xs.take i := by
    rw [List.filter_eq_self]
    intro x hx
    obtain ⟨k, hk, rfl⟩ := List.mem_iff_getElem.1 hx
    rw [List.length_take] at hk
    have := h1 k (by omega)
    rw [List.getElem_take]
    simpa [show k < xs.length by omega] using this
  have a2 : (xs.drop i).filter (fun x => decide (compareV x t < 0)) = [] := by
    rw [List.filter_eq_nil_iff]
    intro x hx
    obtain ⟨k, hk, rfl⟩ := List.mem_iff_getElem.1 hx
    rw [List.length_drop] at hk
    have := h2 (i + k) (by omega) (by omega)
    rw [List.getElem_drop]
    simpa [show i + k < xs.length by omega] using this
  rw [a1, a2, List.length_take]
  simp only [List.length_nil]
  omega
def SoV (xs : List Val) (t : Val) : Prop := ∀ a b, a < b → b < xs.length → compareV (xs.getD b ⟨0, 0, []⟩) t < 0 → compareV (xs.getD a ⟨0, 0, []⟩) t < 0
theorem val_eq {a b : Val} (h : (decide (a.k = b.k) && (decide (a.n = b.n) && (a.s == b.s && true))) = true) : a = b := by
  obtain ⟨k, n, s⟩ := a
  obtain ⟨k', n', s'⟩ := b
  simp at h
  obtain ⟨rfl, rfl, rfl⟩ := h
  rfl
theorem val_ne {a b : Val} (h : (decide (a.k = b.k) && (decide (a.n = b.n) && (a.s == b.s && true))) = false) : ¬ a = b := by
  rintro rfl
  simp at h
theorem take_snoc_eq7 {α : Type} {a b : List α} {i : Nat} (h : a.take i = b.take i) (ha : i < a.length) (hb : i < b.length) (e : a[i] = b[i]) : a.take (i + 1) = b.take (i + 1) := by
  rw [List.take_add_one, List.take_add_one, h, List.getElem?_eq_getElem ha, List.getElem?_eq_getElem hb, e]
open TS in
theorem pos_down {x y : Val} {out : List Val} {k : Nat} {i : Int} (hi : i = (k : Int) + 1) (hk : k < out.length) (hy : out[k] = y) (hl : lessV x y = true) : posV x out (k + 1) = posV x out k := by
  conv => lhs; unfold posV
  rw [if_pos]
  rw [List.getD_eq_getElem?_getD, List.getElem?_eq_getElem hk, Option.getD_some, hy]
  exact hl
open TS in
theorem pos_stay {x y : Val} {out : List Val} {k : Nat} (hk : k < out.length) (hy : out[k] = y) (hl : lessV x y = false) : posV x out (k + 1) = k + 1 := by
  unfold posV
  rw [if_neg]
  rw [List.getD_eq_getElem?_getD, List.getElem?_eq_getElem hk, Option.getD_some, hy, hl]
  decide
theorem cv_lt (x t : Val) : (compareV x t < 0) ↔ lessV x t = true := by
  rw [← TS.lt_less]
  unfold ltOf
  simp
theorem so_sort (l : List Val) : ∀ t, SoV (TS.sortV l) t := by
  intro t a b hab hb h
  have hp : (TS.sortV l).Pairwise (fun x y => TS.leV x y = true) := (TS.upV_sort l) ▸ ((TS.upV_all l l.length (Nat.le_refl _)).2)
  have h1 := List.pairwise_iff_getElem.1 hp a b (by omega) hb hab
  rw [List.getD_eq_getElem?_getD, List.getElem?_eq_getElem hb, Option.getD_some, cv_lt] at h
  rw [List.getD_eq_getElem?_getD, List.getElem?_eq_getElem (by omega : a < (TS.sortV l).length), Option.getD_some, cv_lt]
  have h2 := TS.leV_less h
  have h3 := TS.leV_trans h1 h2
  cases hq : lessV (TS.sortV l)[a] t with
  | true => rfl
  | false =>
    have h4 : TS.leV t (TS.sortV l)[a] = true := by rw [TS.leV_of, hq]; rfl
    have h5 := TS.leV_anti h3 h4
    have h6 : TS.leV (TS.sortV l)[b] t = true := h2
    rw [← h5] at h
    have h7 : TS.leV (TS.sortV l)[a] (TS.sortV l)[b] = true := h1
    rw [TS.leV_of, h] at h7
    cases h7
theorem clV_sort (l : List Val) (t : Val) : clV (TS.sortV l) t = clV l t := by
  unfold clV
  have hp : (TS.sortV l).Perm l := by
    have := (TS.upV_all l l.length (Nat.le_refl _)).1
    rw [TS.upV_sort, List.take_length] at this
    exact this
  rw [(hp.filter _).length_eq]
theorem clV_rng (l : List Val) (t : Val) : 0 ≤ clV l t ∧ clV l t ≤ (l.length : Int) := by
  unfold clV
  have := List.length_filter_le (fun x => decide (compareV x t < 0)) l
  omega
theorem letter_len (d : Int) : (letterS d).length ≤ 1 := by
  unfold letterS
  split
  · decide
  · unfold sub
    rw [List.length_take]
    omega
def nameN (ky : List Int) (r : Rul) (d : Int) (l : List Val) (i : Nat) : Val := if r.way = 1 then ⟨2, 0, letterS d ++ Lib.itoa ((i : Int) + 1)⟩ else if r.way = 2 then ⟨2, 0, letterS d ++ (TK.ofS ky (letterS d) r.size (printV (l.getD i ⟨0, 0, []⟩))).1⟩ else ⟨1, clV l (l.getD i ⟨0, 0, []⟩) + 1, []⟩
def V0 : Val := ⟨0, 0, []⟩
def entN (ky : List Int) (r : Rul) (d : Int) (l : List Val) (i : Nat) : Ent := ⟨d, nameN ky r d l i, l.getD i ⟨0, 0, []⟩⟩
def entsN (ky : List Int) (r : Rul) (d : Int) (l : List Val) (n : Nat) : List Ent := (List.range n).map (entN ky r d l)
def namesN (ky : List Int) (r : Rul) (d : Int) (l : List Val) (n : Nat) : List Val := (List.range n).map (nameN ky r d l)
def buildN (ky : List Int) (r : Rul) (d : Int) (xs : List Val) : List Ent × Int :=
  if mayB r d = false then ([], 1) else if r.way = 0 then ([], 0) else if (namesN ky r d (unlikeL d xs) (unlikeL d xs).length).Nodup then (entsN ky r d (unlikeL d xs) (unlikeL d xs).length, 0) else ([], 8)
theorem entsN_step {ky : List Int} {r : Rul} {d : Int} {l : List Val} {n : Nat} : entsN ky r d l n ++ [entN ky r d l n] = entsN ky r d l (n + 1) := by unfold entsN; rw [List.range_succ, List.map_append]; rfl
theorem namesN_step {ky : List Int} {r : Rul} {d : Int} {l : List Val} {n : Nat} : namesN ky r d l n ++ [nameN ky r d l n] = namesN ky r d l (n + 1) := by unfold namesN; rw [List.range_succ, List.map_append]; rfl
theorem namesN_len {ky : List Int} {r : Rul} {d : Int} {l : List Val} {n : Nat} : (namesN ky r d l n).length = n := by simp [namesN]
theorem entsN_len {ky : List Int} {r : Rul} {d : Int} {l : List Val} {n : Nat} : (entsN ky r d l n).length = n := by simp [entsN]
theorem names_bad {ky : List Int} {r : Rul} {d : Int} {l : List Val} {i n : Nat} (hi : i < n) (h : nameN ky r d l i ∈ namesN ky r d l i) : ¬ (namesN ky r d l n).Nodup := by
  intro hn
  have h2 : (namesN ky r d l (i + 1)).Sublist (namesN ky r d l n) := by
    unfold namesN
    exact (List.range_sublist.2 (by omega)).map _
  have h3 := hn.sublist h2
  rw [← namesN_step, List.nodup_append] at h3
  exact h3.2.2 _ h _ (by simp) rfl
theorem nodup_step {ky : List Int} {r : Rul} {d : Int} {l : List Val} {i : Nat} (hn : (namesN ky r d l i).Nodup) (h : ¬ nameN ky r d l i ∈ namesN ky r d l i) : (namesN ky r d l (i + 1)).Nodup := by
  rw [← namesN_step, List.nodup_append]
  refine ⟨hn, by simp, fun a ha b hb e => ?_⟩
  rw [List.mem_singleton] at hb
  subst hb e
  exact h ha
theorem name_wf {ky : List Int} {r : Rul} {d : Int} {l : List Val} {i : Nat} (hl : l.length ≤ 1000000) (hi : i < l.length) : (nameN ky r d l i).Wf := by
  unfold nameN
  split
  · have h1 := letter_len d
    have h2 := Lib.itoa_length_le ((i : Int) + 1) (by omega) (by omega)
    exact ⟨by show I64 2; unfold I64; omega, by show I64 0; unfold I64; omega, by simp; omega⟩
  · split
    · have h1 := letter_len d
      have h2 := TK.of_len ky (letterS d) r.size (printV (l.getD i ⟨0, 0, []⟩))
      exact ⟨by show I64 2; unfold I64; omega, by show I64 0; unfold I64; omega, by simp only [List.length_append]; omega⟩
    · have h1 := clV_rng l (l.getD i ⟨0, 0, []⟩)
      refine ⟨by show I64 1; unfold I64; omega, ?_, by simp⟩
      show I64 (_ + 1)
      unfold I64
      omega
def ENT0 : Ent := ⟨0, ⟨0, 0, []⟩, ⟨0, 0, []⟩⟩
def greatN (kn : Nat) (xs : List Val) : Bool := xs.any (fun v => decide (100 < (v.s.length : Int))) || (decide (200 < (kn : Int)) || decide (40 < (xs.length : Int)))
theorem greatN_len {kn : Nat} {xs : List Val} (h : greatN kn xs = false) : xs.length ≤ 40 ∧ kn ≤ 200 := by
  unfold greatN at h
  simp only [Bool.or_eq_false_iff, decide_eq_false_iff_not] at h
  omega
/-! Ranks. -/
theorem cv_self (x : Val) : ¬ compareV x x < 0 := by
  rw [cv_lt]
  have := TS.leV_of x x
  intro h
  have h2 : TS.leV x x = true := by have := TS.leV_total x x; simpa using this
  rw [TS.leV_of, h] at h2
  cases h2
theorem clV_lt {U : List Val} {x : Val} (h : x ∈ U) : clV U x < (U.length : Int) := by
  unfold clV
  have h1 : (U.filter fun y => decide (compareV y x < 0)).length < U.length := by
    rcases Nat.lt_or_ge (U.filter fun y => decide (compareV y x < 0)).length U.length with h2 | h2
    · exact h2
    · exfalso
      have h3 := List.filter_eq_self.1 ((List.filter_sublist (p := fun y => decide (compareV y x < 0)) (l := U)).eq_of_length_le h2) x h
      exact cv_self x (of_decide_eq_true h3)
  omega
theorem filter_lt {α : Type} (p q : α → Bool) : ∀ (l : List α) (x : α), (∀ y, p y = true → q y = true) → x ∈ l → p x = false → q x = true → (l.filter p).length < (l.filter q).length
  | [], x, _, hx, _, _ => by cases hx
  | y :: l, x, hpq, hx, hp, hq => by
    have hle : ∀ l : List α, (l.filter p).length ≤ (l.filter q).length := by
      intro l
      induction l with
      | nil => simp
      | cons z l ih =>
        simp only [List.filter_cons]
        by_cases hz : p z = true
        · rw [if_pos hz, if_pos (hpq z hz)]; simp; exact ih
        · rw [if_neg hz]
          split
          · simp; omega
          · exact ih
    simp only [List.filter_cons]
    rcases List.mem_cons.1 hx with rfl | hx
    · rw [if_neg (by simp [hp]), if_pos hq]
      have := hle l
      simp only [List.length_cons]; omega
    · have := filter_lt p q l x hpq hx hp hq
      by_cases hz : p y = true
      · rw [if_pos hz, if_pos (hpq y hz)]; simp only [List.length_cons]; omega
      · rw [if_neg hz]
        split
        · simp only [List.length_cons]; omega
        · exact this
theorem less_self (x : Val) : lessV x x = false := by
  cases h : lessV x x with
  | false => rfl
  | true => exact absurd ((cv_lt x x).2 h) (cv_self x)
theorem less_trans {x y z : Val} (h1 : lessV x y = true) (h2 : lessV y z = true) : lessV x z = true := by
  cases h : lessV x z with
  | true => rfl
  | false =>
    have h4 : TS.leV z x = true := by rw [TS.leV_of, h]; rfl
    have h5 := TS.leV_trans (TS.leV_less h2) h4
    rw [TS.leV_of, h1] at h5
    cases h5
theorem clV_mono {U : List Val} {x y : Val} (hx : x ∈ U) (h : lessV x y = true) : clV U x < clV U y := by
  unfold clV
  have := filter_lt (fun z => decide (compareV z x < 0)) (fun z => decide (compareV z y < 0)) U x (fun z hz => by
    have h1 := (cv_lt z x).1 (of_decide_eq_true hz)
    exact decide_eq_true ((cv_lt z y).2 (less_trans h1 h))) hx (decide_eq_false (cv_self x)) (decide_eq_true ((cv_lt x y).2 h))
  omega
theorem less_or {x y : Val} (h : lessV x y = false) (hne : x ≠ y) : lessV y x = true := by
  cases h2 : lessV y x with
  | true => rfl
  | false =>
    have h3 : TS.leV y x = true := by rw [TS.leV_of, h]; rfl
    have h4 : TS.leV x y = true := by rw [TS.leV_of, h2]; rfl
    exact absurd (TS.leV_anti h4 h3) hne
theorem rank_eq {U : List Val} {x y : Val} (hx : x ∈ U) (hy : y ∈ U) (hne : x ≠ y) : lessV x y = decide (clV U x < clV U y) ∧ clV U x ≠ clV U y := by
  cases h : lessV x y with
  | true =>
    have := clV_mono hx h
    exact ⟨(decide_eq_true this).symm, by omega⟩
  | false =>
    have := clV_mono hy (less_or h hne)
    exact ⟨(decide_eq_false (by omega)).symm, by omega⟩
theorem ent_eq {x y : Ent} (h : (decide (x.dom = y.dom) && (decide (x.name.k = y.name.k) && (decide (x.name.n = y.name.n) && (x.name.s == y.name.s && (decide (x.real.k = y.real.k) && (decide (x.real.n = y.real.n) && (x.real.s == y.real.s && true))))))) = true) : x = y := by
  obtain ⟨d, ⟨k, n, s⟩, ⟨k2, n2, s2⟩⟩ := x
  obtain ⟨d', ⟨k', n', s'⟩, ⟨k2', n2', s2'⟩⟩ := y
  simp at h
  obtain ⟨rfl, rfl, rfl, rfl, rfl, rfl, rfl⟩ := h
  rfl
theorem name_ne {a b : Val} (h : a ≠ b) : (decide (a.k = b.k) && (decide (a.n = b.n) && (a.s == b.s && true))) = false := by
  cases e : (decide (a.k = b.k) && (decide (a.n = b.n) && (a.s == b.s && true))) with
  | false => rfl
  | true => exact absurd (val_eq e) h
theorem getD_ne {l : List Val} (h : l.Nodup) {i k : Nat} (hi : i < l.length) (hk : k < i) : l.getD i ⟨0, 0, []⟩ ≠ l.getD k ⟨0, 0, []⟩ := by
  intro e
  rw [List.getD_eq_getElem?_getD, List.getElem?_eq_getElem hi, List.getD_eq_getElem?_getD, List.getElem?_eq_getElem (by omega : k < l.length)] at e
  simp only [Option.getD_some] at e
  have := (List.nodup_iff_pairwise_ne.1 h)
  exact List.pairwise_iff_getElem.1 this k i (by omega) hi hk e.symm
/-- The first entry that tells this value in this domain. -/
def calledN (xs : List Ent) (d : Int) (v : Val) : Val × Bool := match xs.find? (fun x => decide (x.dom = d) && decide (x.real = v)) with
  | some x => (x.name, true)
  | none => (⟨0, 0, []⟩, false)
def keyName (ky : List Int) (r : Rul) (d : Int) (v : Val) : Val := ⟨2, 0, letterS d ++ (TK.ofS ky (letterS d) r.size (printV v)).1⟩
theorem build_key {ky : List Int} {r : Rul} {d : Int} {xs : List Val} (h : r.way = 2) : ∀ x ∈ (buildN ky r d xs).1, x.name = keyName ky r d x.real := by
  intro x hx
  unfold buildN at hx
  split at hx
  · cases hx
  · split at hx
    · cases hx
    · split at hx
      · obtain ⟨i, _, rfl⟩ := List.mem_map.1 hx
        show nameN ky r d _ i = _
        unfold nameN
        rw [if_neg (by omega), if_pos h]
        rfl
      · cases hx
theorem called_key {ky : List Int} {r : Rul} {d : Int} {xs : List Val} (h : r.way = 2) {v : Val} (hc : (calledN (buildN ky r d xs).1 d v).2 = true) : (calledN (buildN ky r d xs).1 d v).1 = keyName ky r d v := by
  unfold calledN at hc ⊢
  cases hf : (buildN ky r d xs).1.find? (fun x => decide (x.dom = d) && decide (x.real = v)) with
  | none => rw [hf] at hc; cases hc
  | some x =>
    have h1 := List.find?_some hf
    simp only [Bool.and_eq_true, decide_eq_true_eq] at h1
    show x.name = _
    rw [build_key h x (List.mem_of_find?_eq_some hf), h1.2]
/-- Under one key a value is called the same. -/
theorem keyed_same {ky : List Int} {r : Rul} {d : Int} {xa xb : List Val} (h : r.way = 2) {v : Val} (ha : (calledN (buildN ky r d xa).1 d v).2 = true) (hb : (calledN (buildN ky r d xb).1 d v).2 = true) :
    (calledN (buildN ky r d xa).1 d v).1 = (calledN (buildN ky r d xb).1 d v).1 := by rw [called_key h ha, called_key h hb]
/-- One entry more. -/
theorem called_step {xs : List Ent} {d : Int} {v : Val} {i : Nat} {E0 : Ent} (hi : i < xs.length) (h : ¬ ((xs.getD i E0).dom = d ∧ (xs.getD i E0).real = v)) : calledN (xs.drop i) d v = calledN (xs.drop (i + 1)) d v := by
  have e : xs.drop i = xs.getD i E0 :: xs.drop (i + 1) := by
    rw [List.drop_eq_getElem_cons hi, List.getD_eq_getElem?_getD, List.getElem?_eq_getElem hi, Option.getD_some]
  rw [e]
  unfold calledN
  rw [List.find?_cons_of_neg (by simpa using h)]
theorem called_here {xs : List Ent} {d : Int} {v : Val} {i : Nat} {E0 : Ent} (hi : i < xs.length) (h : (xs.getD i E0).dom = d ∧ (xs.getD i E0).real = v) : calledN (xs.drop i) d v = ((xs.getD i E0).name, true) := by
  have e : xs.drop i = xs.getD i E0 :: xs.drop (i + 1) := by
    rw [List.drop_eq_getElem_cons hi, List.getD_eq_getElem?_getD, List.getElem?_eq_getElem hi, Option.getD_some]
  rw [e]
  unfold calledN
  rw [List.find?_cons_of_pos (by simpa using h)]
theorem called_end {xs : List Ent} {d : Int} {v : Val} {i : Nat} (hi : xs.length ≤ i) : calledN (xs.drop i) d v = (⟨0, 0, []⟩, false) := by
  rw [List.drop_eq_nil_of_le hi]; rfl
/-- A text is no longer than what it is of, and a bit. -/
theorem print_short {x : Val} (h : (x.s.length : Int) ≤ 100) (hw : x.Wf) : (printV x).length ≤ 10000000 := by
  unfold printV
  split
  · decide
  split
  · decide
  split
  · have := Lib.itoa_length_le x.n hw.n.1 hw.n.2; omega
  split
  · omega
  split
  · decide
  · decide
end Go.Proofs.YtngoaapgdfohjaaGreatDoor.T27
