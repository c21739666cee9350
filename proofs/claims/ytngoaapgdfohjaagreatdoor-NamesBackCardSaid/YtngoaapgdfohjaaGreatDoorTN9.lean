/- Own text. -/
import Derived.Test.YtngoaapgdfohjaaGreatDoorTS2
set_option linter.unusedVariables false
set_option linter.unusedSimpArgs false
namespace Go.Proofs.YtngoaapgdfohjaaGreatDoor.TS
open Go Go.Proofs.YtngoaapgdfohjaaGreatDoor.X Go.Shelf
/-! ## Insertion, and the library's sort: the same list -/
def leV (x y : Val) : Bool := !(ltOf compareV) y x
theorem lt_less (x y : Val) : ltOf compareV x y = lessV x y := by
  unfold ltOf
  have h1 := cv_eq x y
  cases h2 : lessV y x with
  | true =>
    rw [h2] at h1
    simp only [if_true] at h1
    rw [h1]
    cases h3 : lessV x y with
    | false => rfl
    | true =>
      exfalso
      have h4 := cv_eq y x
      rw [h3] at h4
      simp only [if_true] at h4
      have := cv_neg x y
      omega
  | false =>
    rw [h2] at h1
    rw [if_neg (by decide)] at h1
    cases h3 : lessV x y with
    | false => rw [h3, if_neg (by decide)] at h1; rw [h1]; rfl
    | true => rw [h3, if_pos rfl] at h1; rw [h1]; rfl
theorem leV_of (x y : Val) : leV x y = !lessV y x := by unfold leV; rw [lt_less]
theorem leV_trans {x y z : Val} (h1 : leV x y = true) (h2 : leV y z = true) : leV x z = true := by
  unfold leV at *
  simp only [Bool.not_eq_true'] at *
  exact cv_swo.ntrans z y x h2 h1
theorem leV_anti {x y : Val} (h1 : leV x y = true) (h2 : leV y x = true) : x = y := by
  unfold leV at *
  simp only [Bool.not_eq_true'] at *
  exact cv_total x y h2 h1
theorem leV_less {x y : Val} (h : lessV x y = true) : leV x y = true := by
  unfold leV
  simp only [Bool.not_eq_true']
  cases h2 : ltOf compareV y x with
  | false => rfl
  | true =>
    have h3 := cv_swo.trans x y x (by rw [lt_less]; exact h) h2
    rw [cv_swo.irrefl] at h3
    cases h3
theorem leV_total (x y : Val) : (leV x y || leV y x) = true := by
  cases h : lessV y x with
  | false => rw [leV_of x y, h]; rfl
  | true => rw [leV_less h]; simp
theorem sorted_one : ∀ {l m : List Val}, l.Perm m → l.Pairwise (fun x y => leV x y = true) → m.Pairwise (fun x y => leV x y = true) → l = m
  | [], m, hp, _, _ => by
    have := hp.length_eq
    exact (List.eq_nil_of_length_eq_zero (by simpa using this.symm)).symm
  | a :: l, [], hp, _, _ => by have := hp.length_eq; simp at this
  | a :: l, b :: m, hp, h1, h2 => by
    rw [List.pairwise_cons] at h1 h2
    have hab : a = b := by
      have ha : a ∈ b :: m := hp.subset (by simp)
      have hb : b ∈ a :: l := hp.symm.subset (by simp)
      rcases List.mem_cons.1 ha with e | ha
      · exact e
      · rcases List.mem_cons.1 hb with e | hb
        · exact e.symm
        · exact leV_anti (h1.1 b hb) (h2.1 a ha)
    subst hab
    rw [sorted_one (List.Perm.cons_inv hp) h1.2 h2.2]
/-- Where a value goes in: behind those that it isn't ahead of. -/
def posV (x : Val) (out : List Val) : Nat → Nat
  | 0 => 0
  | k + 1 => if lessV x (out.getD k x) = true then posV x out k else k + 1
theorem posV_le (x : Val) (out : List Val) : ∀ k, posV x out k ≤ k
  | 0 => Nat.le_refl _
  | k + 1 => by
    unfold posV
    split
    · exact Nat.le_trans (posV_le x out k) (Nat.le_succ k)
    · exact Nat.le_refl _
theorem posV_behind (x : Val) (out : List Val) : ∀ k j, posV x out k ≤ j → j < k → lessV x (out.getD j x) = true
  | 0, j, _, h => by omega
  | k + 1, j, h1, h2 => by
    unfold posV at h1
    split at h1
    · rename_i hl
      by_cases e : j = k
      · subst e; exact hl
      · exact posV_behind x out k j h1 (by omega)
    · omega
theorem posV_ahead (x : Val) (out : List Val) : ∀ k j, posV x out k = j + 1 → lessV x (out.getD j x) = false
  | 0, j, h => by simp [posV] at h
  | k + 1, j, h => by
    unfold posV at h
    split at h
    · exact posV_ahead x out k j h
    · rename_i hl
      have : j = k := by omega
      subst this
      simpa using hl
def insV (out : List Val) (x : Val) : List Val := (out.take (posV x out out.length) ++ [x]) ++ out.drop (posV x out out.length)
theorem insV_perm (out : List Val) (x : Val) : (insV out x).Perm (x :: out) := by
  unfold insV
  rw [List.append_assoc]
  refine List.perm_middle.trans ?_
  show (x :: (out.take _ ++ out.drop _)).Perm _
  rw [List.take_append_drop]
theorem insV_sorted {out : List Val} {x : Val} (h : out.Pairwise (fun x y => leV x y = true)) : (insV out x).Pairwise (fun x y => leV x y = true) := by
  have hsplit := h
  rw [← List.take_append_drop (posV x out out.length) out, List.pairwise_append] at hsplit
  obtain ⟨a1, a2, a3⟩ := hsplit
  have hlo : ∀ y ∈ out.take (posV x out out.length), leV y x = true := by
    intro y hy
    obtain ⟨i, hi, rfl⟩ := List.mem_iff_getElem.1 hy
    rw [List.length_take] at hi
    have hp := posV_le x out out.length
    obtain ⟨j, hj⟩ : ∃ j, posV x out out.length = j + 1 := ⟨posV x out out.length - 1, by omega⟩
    have hjl : j < out.length := by omega
    have h1 := posV_ahead x out out.length j hj
    rw [List.getD_eq_getElem?_getD, List.getElem?_eq_getElem hjl, Option.getD_some] at h1
    have h2 : leV out[j] x = true := by rw [leV_of, h1]; rfl
    rw [List.getElem_take]
    by_cases e : i = j
    · subst e; exact h2
    · exact leV_trans (List.pairwise_iff_getElem.1 h i j (by omega) hjl (by omega)) h2
  have hhi : ∀ y ∈ out.drop (posV x out out.length), leV x y = true := by
    intro y hy
    obtain ⟨i, hi, rfl⟩ := List.mem_iff_getElem.1 hy
    rw [List.length_drop] at hi
    have h1 := posV_behind x out out.length (posV x out out.length + i) (by omega) (by omega)
    rw [List.getD_eq_getElem?_getD, List.getElem?_eq_getElem (by omega), Option.getD_some] at h1
    rw [List.getElem_drop]
    exact leV_less h1
  unfold insV
  rw [List.pairwise_append, List.pairwise_append]
  refine ⟨⟨a1, by simp, fun y hy z hz => ?_⟩, a2, fun y hy z hz => ?_⟩
  · simp only [List.mem_singleton] at hz
    subst hz
    exact hlo y hy
  · rcases List.mem_append.1 hy with hy | hy
    · exact a3 y hy z hz
    · simp only [List.mem_singleton] at hy
      subst hy
      exact hhi z hz
/-- The reference's sort, after `i` values. -/
def upV (xs : List Val) (i : Nat) : List Val := (xs.take i).foldl insV []
theorem upV_step {xs : List Val} {i : Nat} (h : i < xs.length) : upV xs (i + 1) = insV (upV xs i) xs[i] := by
  unfold upV
  rw [List.take_add_one, List.getElem?_eq_getElem h, List.foldl_append]
  rfl
theorem upV_all (xs : List Val) : ∀ i, i ≤ xs.length → (upV xs i).Perm (xs.take i) ∧ (upV xs i).Pairwise (fun x y => leV x y = true)
  | 0, _ => ⟨List.Perm.refl _, List.Pairwise.nil⟩
  | i + 1, h => by
    obtain ⟨h1, h2⟩ := upV_all xs i (by omega)
    rw [upV_step (by omega)]
    refine ⟨(insV_perm _ _).trans ?_, insV_sorted h2⟩
    rw [List.take_add_one, List.getElem?_eq_getElem (by omega)]
    exact (h1.cons _).trans (List.perm_append_comm (l₁ := [xs[i]]) (l₂ := xs.take i))
theorem upV_len (xs : List Val) (i : Nat) (h : i ≤ xs.length) : (upV xs i).length = i := by
  rw [(upV_all xs i h).1.length_eq, List.length_take]
  omega
theorem upV_sort (xs : List Val) : upV xs xs.length = sortV xs := by
  obtain ⟨h1, h2⟩ := upV_all xs xs.length (Nat.le_refl _)
  rw [List.take_length] at h1
  refine sorted_one (h1.trans (List.mergeSort_perm xs _).symm) h2 ?_
  exact List.pairwise_mergeSort (le := leV) (fun a b c => leV_trans) (fun a b => leV_total a b) xs
end Go.Proofs.YtngoaapgdfohjaaGreatDoor.TS
