/- Own text. -/
import Derived.Test.YtngoaapgdfohjaaGreatDoorW9
set_option linter.unusedVariables false
set_option linter.unusedSimpArgs false
set_option maxRecDepth 100000
set_option maxHeartbeats 4000000
namespace Go.Proofs.YtngoaapgdfohjaaGreatDoor.T27
open Go Go.Proofs.YtngoaapgdfohjaaGreatDoor.X Go.Proofs Go.Proofs.YtngoaapgdfohjaaGreatDoor.T28 Go.Proofs.YtngoaapgdfohjaaGreatDoor.TS Go.Proofs.YtngoaapgdfohjaaGreatDoor.TK
/-! ## The kinds of lines -/
structure Kd where
  w : Bs
  n : Nat
  cs : List Value
abbrev kdF (x : Kd) : Value := .func (.func x.n) #[] x.cs.toArray
abbrev kdCells (x : Kd) : List Value := [str x.w, kdF x]
def kKd : Knd Kd where
  sz := 2
  R := fun _ x cs => cs = kdCells x
  len := by rintro G x cs rfl; rfl
  le := fun _ h => h
instance : EncK kKd kdCells := ⟨fun _ _ _ h => h, fun _ _ => rfl⟩
theorem kone_kd : KOne kKd := by rintro G x cs rfl; rfl
def KD0 : Kd := ⟨[], 0, []⟩
def KdOk (G : Heap) (ks : List Kd) : Prop := ∀ k, k < ks.length → (ks.getD k KD0).w = wordK k ∧ DoK G (kdF (ks.getD k KD0)) k
theorem KdOk.up {G G' : Heap} [h : LeT G G'] {ks : List Kd} (d : KdOk G ks) : KdOk G' ks := fun k hk => ⟨(d k hk).1, (d k hk).2.up⟩
theorem KdOk.snoc {G : Heap} {ks : List Kd} (d : KdOk G ks) {x : Kd} (hw : x.w = wordK ks.length) (hf : DoK G (kdF x) ks.length) : KdOk G (ks ++ [x]) := fun k hk => by
  rw [List.length_append, List.length_singleton] at hk
  rcases Nat.lt_or_ge k ks.length with h | h
  · rw [List.getD_eq_getElem?_getD, List.getElem?_append_left h, ← List.getD_eq_getElem?_getD]
    exact d k h
  · obtain rfl : k = ks.length := by omega
    rw [List.getD_eq_getElem?_getD, List.getElem?_append_right (Nat.le_refl _), Nat.sub_self]
    exact ⟨hw, hf⟩
theorem f_rule (d : Int) (G : Heap) : FnR Tryz.prog 168 [.int .i64 d] G (fun v G' => ∃ b1, v = .func (.func 208) #[] #[.pointer (some ⟨b1, 0, none⟩)] ∧ CellsAt G' b1 0 [.int .i64 d]) := by
  refine fn_in Tryz.func168 rfl Tryz.ntmps168 rfl fun w0 Q0 hQ => ?_
  refine go ?_; intro B
  refine w_stillC (n := 1) B .here rfl fun G1 _ hC => ?_
  refine go ?_
  exact w_ret hQ ⟨B, rfl, hC⟩
theorem domW_len : domW.length = 5 := rfl
theorem dom_word {i : Nat} (hi : i < 5) : domW.getD i [] = wordK i := by
  have hc : i = 0 ∨ i = 1 ∨ i = 2 ∨ i = 3 ∨ i = 4 := by omega
  rcases hc with rfl | rfl | rfl | rfl | rfl <;> rfl
abbrev kT (B4 : Nat) : Kd := ⟨[116, 105, 109, 101], 171, [.pointer (some ⟨B4, 0, none⟩)]⟩
abbrev kNo (B4 : Nat) : Kd := ⟨[110, 111, 116, 101], 172, [.pointer (some ⟨B4, 0, none⟩)]⟩
abbrev kL : Kd := ⟨[108, 111, 111, 115, 101], 173, []⟩
abbrev kF : Kd := ⟨[102, 111, 114, 99, 101], 174, []⟩
theorem wT : ([116, 105, 109, 101] : Bs) = wordK 5 := rfl
theorem wN : ([110, 111, 116, 101] : Bs) = wordK 6 := rfl
theorem wL : ([108, 111, 111, 115, 101] : Bs) = wordK 7 := rfl
theorem wF : ([102, 111, 114, 99, 101] : Bs) = wordK 8 := rfl
attribute [local irreducible] domW wordK
theorem f_kinds (G : Heap) (g : Gl G) : FnR Tryz.prog 134 [] G (fun v G' => ∃ ks A c, v = .slice A ks.length c ∧ ks.length = 9 ∧ ks.length ≤ c ∧ Rd kKd G' A ks ∧ KdOk G' ks) := by
  refine fn_in Tryz.func134 rfl Tryz.ntmps134 rfl fun w0 Q0 hQ => ?_
  have gd : CellsAt G 1 0 (domW.map str) := g.dom
  refine go ?_
  refine w_stp (p_ldIA (n := 5) rfl rfl rfl gd (by infer_instance) (by rw [List.length_map, domW_len])) ?_
  refine go ?_
  refine w_nilO (K := kKd) 196 fun hO => ?_
  refine w_loop (α := Nat × List Kd × Option Addr × Nat × Chunk) (fun x => [(1, .slice x.2.2.1 x.2.1.length x.2.2.2.1), (6, .int .i64 (x.1 : Int))]) (fun x => [x.2.2.2.2]) (fun x G' => x.1 ≤ 5 ∧ x.2.1.length = x.1 ∧ KdOk G' x.2.1 ∧ X.Own kKd 196 G' x.2.2.1 x.2.2.2.1 x.2.1 x.2.2.2.2) (fun x => 5 - x.1) (0, [], none, 0, []) ⟨by omega, rfl, by intro k hk; exact absurd hk (Nat.not_lt_zero _), hO⟩ ?_
  rintro ⟨i, ks, A, c, C⟩ G1 _ ⟨hi, hkl, hok, hO⟩
  dsimp only at hi hkl hok hO ⊢
  refine go ?_
  refine w_cd rfl (fun h3 => ?_) (fun h3 => ?_)
  · have hi5 : i < 5 := by omega
    refine go ?_
    refine w_stp (p_ixVs rfl rfl rfl ⟨by omega, by rw [domW_len]; omega⟩) ?_
    refine go ?_
    refine w_call rfl rfl rfl (f_rule (i : Int) _) fun v G2 _ hv => ?_
    obtain ⟨b1, rfl, hC⟩ := hv
    have hdo := doR i b1 hi5 G2 g.up hC
    refine go ?_
    refine w_stp (p_build (cs := #[str (domW.getD i []), .func (.func 208) #[] #[.pointer (some ⟨b1, 0, none⟩)]]) rfl rfl (by kernel_rfl)) ?_
    refine w_push (K := kKd) ⟨domW.getD i [], 208, [.pointer (some ⟨b1, 0, none⟩)]⟩ rfl rfl rfl rfl (cs := #[str (domW.getD i []), .func (.func 208) #[] #[.pointer (some ⟨b1, 0, none⟩)]]) (by kernel_rfl) rfl rfl (by simp) hO inferInstance .here rfl kone_kd (by omega) fun b2 A5 c5 C5 G5 _ hO5 => ?_
    refine go ?_
    refine w_again (i + 1, ks ++ [⟨domW.getD i [], 208, [.pointer (some ⟨b1, 0, none⟩)]⟩], A5, c5, C5) ⟨by dsimp only; omega, by rw [List.length_append, hkl]; rfl, KdOk.snoc hok.up (by rw [hkl, dom_word hi5]) (by rw [hkl]; exact hdo.up), hO5⟩ (by dsimp only; omega)
  · obtain rfl : i = 5 := by omega
    refine go ?_; intro B4
    refine go ?_
    refine w_stillC (n := 1) B4 .here rfl fun G2 _ hC => ?_
    refine go ?_
    have hg : Gl G2 := g.up
    refine w_stp (p_build (cs := (kdCells (kT B4)).toArray) rfl rfl (by kernel_rfl)) ?_
    refine go ?_
    refine w_stp (p_build (cs := (kdCells (kNo B4)).toArray) rfl rfl (by kernel_rfl)) ?_
    refine w_stp (p_build (cs := (kdCells kL).toArray) rfl rfl (by kernel_rfl)) ?_
    refine w_stp (p_build (cs := (kdCells kF).toArray) rfl rfl (by kernel_rfl)) ?_
    refine w_lit (K := kKd) [(kT B4), (kNo B4), kL, kF] rfl rfl rfl (cs := (kdCells (kT B4) ++ (kdCells (kNo B4) ++ (kdCells kL ++ kdCells kF))).toArray) (by kernel_rfl) ⟨rfl, rfl, rfl, rfl, rfl⟩ fun b G3 _ hR => ?_
    refine w_app rfl rfl hO inferInstance .here rfl hR (.refl _) rfl kone_kd (by rw [hkl]; simp only [List.length_cons, List.length_nil]; omega) fun A2 c2 C2 hO2 => ?_
    refine go ?_
    refine w_stillO hO2 (.refl _) .here fun G4 _ hR4 hc => ?_
    have e : ks ++ [(kT B4), (kNo B4), kL, kF] = (((ks ++ [(kT B4)]) ++ [(kNo B4)]) ++ [kL]) ++ [kF] := by simp
    have hl9 : (ks ++ [(kT B4), (kNo B4), kL, kF]).length = 9 := by rw [List.length_append, hkl]; rfl
    refine w_ret hQ ⟨ks ++ [(kT B4), (kNo B4), kL, kF], A2, c2, rfl, hl9, hc, hR4, ?_⟩
    rw [e]
    have l5 : (ks ++ [(kT B4)]).length = 6 := by rw [List.length_append, hkl]; rfl
    have l6 : ((ks ++ [(kT B4)]) ++ [(kNo B4)]).length = 7 := by rw [List.length_append, l5]; rfl
    have l7 : (((ks ++ [(kT B4)]) ++ [(kNo B4)]) ++ [kL]).length = 8 := by rw [List.length_append, l6]; rfl
    have h5 : KdOk G4 (ks ++ [(kT B4)]) := KdOk.snoc hok.up (by rw [hkl]; exact wT) (by rw [hkl]; exact (doK2 B4 G2 hg hC).up)
    have h6 := KdOk.snoc h5 (x := (kNo B4)) (by rw [l5]; exact wN) (by rw [l5]; exact (doK3 B4 G2 hg hC).up)
    have h7 := KdOk.snoc h6 (x := kL) (by rw [l6]; exact wL) (by rw [l6]; exact doK4 G4)
    exact KdOk.snoc h7 (x := kF) (by rw [l7]; exact wF) (by rw [l7]; exact doK5 G4)
end Go.Proofs.YtngoaapgdfohjaaGreatDoor.T27
