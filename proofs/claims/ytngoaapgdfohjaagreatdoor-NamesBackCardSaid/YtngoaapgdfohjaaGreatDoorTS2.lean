/- Own text. -/
import Derived.Test.YtngoaapgdfohjaaGreatDoorX40
import Derived.Test.YtngoaapgdfohjaaGreatDoorTS1
import Derived.Test.YtngoaapgdfohjaaGreatDoorSort
set_option linter.unusedVariables false
set_option linter.unusedSimpArgs false
namespace Go.Proofs.YtngoaapgdfohjaaGreatDoor.TS
open Go Go.Proofs.YtngoaapgdfohjaaGreatDoor.X Go.Shelf
/-! ## slices.SortFunc at the program's values -/
theorem cv_same {a b : Val} (h : compareV a b = 0) : a = b := by
  have := cv_zero a b
  rw [decide_eq_true h] at this
  obtain ⟨k, n, s⟩ := a
  obtain ⟨k', n', s'⟩ := b
  simp at this
  obtain ⟨rfl, rfl, rfl⟩ := this
  rfl
theorem cv_le {a b c : Val} (h1 : compareV a b ≤ 0) (h2 : compareV b c ≤ 0) : compareV a c ≤ 0 := by
  have := cv_trans a b c
  simp only [Bool.or_eq_true, decide_eq_true_eq] at this
  omega
theorem cv_swo : Go.Sort.SWO (ltOf compareV) where
  irrefl := fun x => by
    have := cv_neg x x
    unfold ltOf
    exact decide_eq_false (by omega)
  trans := fun x y z h1 h2 => by
    unfold ltOf at *
    simp only [decide_eq_true_eq] at *
    have h3 := cv_le (a := x) (b := y) (c := z) (by omega) (by omega)
    by_cases h4 : compareV x z = 0
    · have := cv_same h4
      subst this
      have := cv_neg x y
      omega
    · omega
  ntrans := fun x y z h1 h2 => by
    unfold ltOf at *
    simp only [decide_eq_false_iff_not] at *
    have a1 := cv_neg x y
    have a2 := cv_neg y z
    have a3 := cv_neg x z
    have := cv_le (a := z) (b := y) (c := x) (by omega) (by omega)
    omega
theorem cv_total (x y : Val) (h1 : ltOf compareV x y = false) (h2 : ltOf compareV y x = false) : x = y := by
  unfold ltOf at *
  simp only [decide_eq_false_iff_not] at *
  have := cv_neg x y
  exact cv_same (by omega)
/-- The values in their order. -/
def sortV (xs : List Val) : List Val := xs.mergeSort fun x y => !(ltOf compareV) y x
theorem sortV_len (xs : List Val) : (sortV xs).length = xs.length := List.length_mergeSort _
theorem c_sortf {w0 : World} {G0 : Heap} {K0 : List Nat} {G : Heap} {w : World} {M : List Chunk} {C : Chunk} {A : Option Addr} {c : Nat} {xs : List Val}
    (hS : St w0 G0 K0 G w (C :: M)) (hC : X.Own kVal 42 G A c xs C) (hl : xs.length < 4611686018427387904) :
    Calls Tryz.prog 121 #[.slice A xs.length c, .func (.func 81) #[] #[]] w (X.Ends w G (X.keys C) (fun v G' C' => v = .tuple #[] ∧ X.Own kVal 42 G' A c (sortV xs) C') (fun _ _ _ => False)) := by
  refine (Own.sorted (ys := sortV xs) hS hC (sortV_len xs) (fun hA hx => ?_) (fun b hA hb hH => ?_)).mono ?_
  · subst hx
    exact AnyF.slices_SortFunc_none Tryz.sortVal A c _ w
  · subst hA
    exact AnyQ.slices_SortFunc_total Tryz.sortVal 3 Tryz.isAgg42 Tryz.sizeOf42 valCells (fun _ => rfl) (fun x v hv => by simp [valCells] at hv; rcases hv with rfl | rfl | rfl <;> rfl) compareV cv_swo 81 #[] b 0 c xs.toArray w
      (enters_of Tryz.func81 (by kernel_rfl) rfl) (fun _ _ _ _ x y => e_compare x y _) hH hb (by simpa using hl) cv_total
  · intro e w' he
    cases e with
    | returned v => obtain ⟨G', M', h1, h2, h3, h4⟩ := he; exact ⟨G', M', h1, h2, h3 ▸ h4⟩
    | panicked c => obtain ⟨_, _, _, h⟩ := he; exact h.elim
    | outgrown => exact he.elim
end Go.Proofs.YtngoaapgdfohjaaGreatDoor.TS
