/- Own text. -/
import Derived.Test.YtngoaapgdfohjaaGreatDoorW19
set_option linter.unusedVariables false
set_option linter.unusedSimpArgs false
set_option maxRecDepth 100000
namespace Go.Proofs.YtngoaapgdfohjaaGreatDoor.T27
open Go Go.Proofs.YtngoaapgdfohjaaGreatDoor.X Go.Proofs Go.Proofs.YtngoaapgdfohjaaGreatDoor.T28 Go.Proofs.YtngoaapgdfohjaaGreatDoor.TS Go.Proofs.YtngoaapgdfohjaaGreatDoor.TK
/-! ## What is parsed has just this text (plain) -/
theorem pre_cut {s p : Bs} (h : Lib.hasPrefix s p = true) : s = p ++ Lib.trimPrefix s p := by
  unfold Lib.trimPrefix
  rw [if_pos h]
  unfold Lib.hasPrefix at h
  obtain ⟨r, rfl⟩ := List.isPrefixOf_iff_prefix.1 h
  simp
theorem suf_cut {s p : Bs} (h : Lib.hasSuffix s p = true) : s = Lib.trimSuffix s p ++ p := by
  unfold Lib.trimSuffix
  rw [if_pos h]
  unfold Lib.hasSuffix at h
  obtain ⟨r, rfl⟩ := List.isSuffixOf_iff_suffix.1 h
  simp
theorem seal_cut {t : Bs} (h : sealOk t) : t = t.take (cutN t) ++ (sealW ++ (dgsS t ++ [10])) := by
  have h1 := pre_cut h.1
  have h2 := suf_cut h.2.1
  have h3 : preS t = dgsS t ++ [10] := h2
  have h4 : t.drop (cutN t) = sealW ++ preS t := h1
  rw [← h3, ← h4, List.take_append_drop]
theorem digI_sign {c : UInt8} (h : 0 ≤ digI (c.toNat : Int)) : txt [signR (digI (c.toNat : Int))] = [c] := by
  have key : ∀ n : Fin 256, 0 ≤ digI (n.val : Int) → txt [signR (digI (n.val : Int))] = [UInt8.ofNat n.val] := by decide +kernel
  have := key ⟨c.toNat, c.toNat_lt⟩ h
  rw [this]
  simp
theorem decS_cons (x y : UInt8) (r : Bs) : decS (x :: y :: r) = (16 * digI (x.toNat : Int) + digI (y.toNat : Int)) :: decS r := by
  unfold decS
  rw [show (x :: y :: r).length / 2 = r.length / 2 + 1 by simp only [List.length_cons]; omega, List.range_succ_eq_map, List.map_cons, List.map_map]
  congr 1
theorem hex_cons {x y : UInt8} {r : Bs} (h : hexOk (x :: y :: r)) : 0 ≤ digI (x.toNat : Int) ∧ 0 ≤ digI (y.toNat : Int) ∧ hexOk r := by
  refine ⟨h.2 0 (by simp), h.2 1 (by simp), by have := h.1; simp only [List.length_cons] at this; omega, fun i hi => ?_⟩
  exact h.2 (i + 2) (by simp only [List.length_cons]; omega)
theorem enc_dec : ∀ (n : Nat) (d : Bs), d.length ≤ n → hexOk d → encR (decS d) = d
  | _, [], _, _ => rfl
  | _, [x], _, h => absurd h.1 (by simp)
  | 0, x :: y :: r, hn, _ => by simp at hn
  | n + 1, x :: y :: r, hn, h => by
    obtain ⟨h1, h2, h3⟩ := hex_cons h
    rw [decS_cons]
    have ih := enc_dec n r (by simp only [List.length_cons] at hn; omega) h3
    have r1 := digI_rng (x.toNat : Int)
    have r2 := digI_rng (y.toNat : Int)
    show txt (pairR (16 * digI (x.toNat : Int) + digI (y.toNat : Int))) ++ encR (decS r) = _
    rw [ih]
    have e1 : (16 * digI (x.toNat : Int) + digI (y.toNat : Int)) / 16 = digI (x.toNat : Int) := by omega
    have e2 : (16 * digI (x.toNat : Int) + digI (y.toNat : Int)) % 16 = digI (y.toNat : Int) := by omega
    have e3 : txt (pairR (16 * digI (x.toNat : Int) + digI (y.toNat : Int))) = txt [signR (digI (x.toNat : Int))] ++ txt [signR (digI (y.toNat : Int))] := by
      unfold pairR
      rw [e1, e2]
      rfl
    rw [e3, digI_sign h1, digI_sign h2]
    rfl
theorem mac_RS (key : List Int) (ho : Oc key) (s : Bs) : macS key [byts s] = macR key (byts s) := by
  have := mac_eq key [byts s] ho (by simpa using byts_oc s)
  simpa using this
theorem read_end {t : Bs} {b : Book} (h : readS t = some b) : bookB b = true ∧ openS b = t := by
  unfold readS readL at h
  split at h
  · split at h
    · split at h
      · cases h
      · split at h
        · rename_i he
          cases h
          unfold endOk at he
          simpa using he
        · cases h
    · cases h
  · cases h
theorem parse_bad {key : List Int} {t : Bs} (h : ¬ (parseB key t).2 = 0) : ((parseB key t).2 = 10 ∨ (parseB key t).2 = 11) ∧ (parseB key t).1 = BK0 := by
  unfold parseB at h ⊢
  split
  · rename_i h1
    rw [if_pos h1] at h
    cases hr : readS (t.take (cutN t)) with
    | none => exact ⟨.inl rfl, rfl⟩
    | some b =>
      rw [hr] at h
      simp only [] at h ⊢
      split
      · rename_i h2
        rw [if_pos h2] at h
        exact absurd rfl h
      · exact ⟨.inr rfl, rfl⟩
  · exact ⟨.inl rfl, rfl⟩
theorem parse_one {key : List Int} (ho : Oc key) {t : Bs} (h : (parseB key t).2 = 0) : bookB (parseB key t).1 = true ∧ printB key (parseB key t).1 = t := by
  unfold parseB at h ⊢
  split
  · rename_i h1
    rw [if_pos h1] at h
    cases hr : readS (t.take (cutN t)) with
    | none => rw [hr] at h; exact absurd h (by show ¬ (10 : Int) = 0; decide)
    | some b =>
      rw [hr] at h
      simp only [] at h ⊢
      split
      · rename_i h2
        obtain ⟨hb, ho2⟩ := read_end hr
        refine ⟨hb, ?_⟩
        unfold printB
        rw [if_pos hb, ho2]
        have h3 := enc_dec _ (dgsS t) (Nat.le_refl _) h1.2.2.1
        rw [h2, mac_RS key ho] at h3
        have h4 := seal_cut h1
        unfold sealS
        rw [h3]
        show t.take (cutN t) ++ ((sealW ++ dgsS t) ++ [10]) = t
        rw [List.append_assoc]
        exact h4.symm
      · rename_i h2
        rw [if_neg h2] at h
        exact absurd h (by show ¬ (11 : Int) = 0; decide)
  · rename_i h1
    rw [if_neg h1] at h
    exact absurd h (by show ¬ (10 : Int) = 0; decide)
end Go.Proofs.YtngoaapgdfohjaaGreatDoor.T27
