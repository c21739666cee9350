/- Own text. -/
import Derived.Test.YtngoaapgdfohjaaGreatDoorT13
set_option linter.unusedVariables false
set_option linter.unusedSimpArgs false
set_option maxRecDepth 100000
set_option maxHeartbeats 4000000
namespace Go.Proofs.YtngoaapgdfohjaaGreatDoor.T27
open Go Go.Proofs.YtngoaapgdfohjaaGreatDoor.X Go.Proofs Go.Proofs.YtngoaapgdfohjaaGreatDoor.T28 Go.Proofs.YtngoaapgdfohjaaGreatDoor.TS Go.Proofs.YtngoaapgdfohjaaGreatDoor.TK
/-! ## Names are right: plain laws -/
theorem hex_word {v : Int} (h : 0 ≤ v ∧ v < 256) : (wordC (UInt8.ofNat (bt hexB (shrI .u8 v 4)).toNat) && wordC (UInt8.ofNat (bt hexB (bAnd .u8 v 15)).toNat)) = true := by
  have key : ∀ n : Fin 256, (wordC (UInt8.ofNat (bt hexB (shrI .u8 (n.val : Int) 4)).toNat) && wordC (UInt8.ofNat (bt hexB (bAnd .u8 (n.val : Int) 15)).toNat)) = true := by decide +kernel
  have := key ⟨v.toNat, by omega⟩
  rwa [show ((v.toNat : Nat) : Int) = v from by omega] at this
theorem enc_word {l : List Int} (h : ∀ v ∈ l, 0 ≤ v ∧ v < 256) : (txt (encS l)).all wordC = true := by
  unfold encS
  suffices key : ∀ (l : List Int) (o : List Int), (∀ v ∈ l, 0 ≤ v ∧ v < 256) → (txt o).all wordC = true → (txt (l.foldl (fun o v => o ++ [bt hexB (shrI .u8 v 4), bt hexB (bAnd .u8 v 15)]) o)).all wordC = true from key l [] h rfl
  intro l
  induction l with
  | nil => intro o _ ho; exact ho
  | cons p l ih =>
    intro o hl ho
    rw [List.foldl_cons]
    refine ih _ (fun v hv => hl v (List.mem_cons_of_mem _ hv)) ?_
    have := hex_word (hl p List.mem_cons_self)
    unfold txt at ho ⊢
    rw [List.map_append, List.all_append, ho]
    simpa using this
theorem dd_word (n : Nat) : (dd n).all wordC = true := by
  refine List.all_eq_true.2 fun c hc => ?_
  have := List.all_eq_true.1 (dd_all n) c hc
  unfold digB at this
  unfold wordC letterB lowB
  simp at this ⊢
  omega
theorem name_of {d : Int} (hd : 0 ≤ d ∧ d ≤ 4) {t : Bs} (ht : t.all wordC = true) (hl : t.length ≤ 39) : nameB ⟨2, 0, letterS d ++ t⟩ = true := by
  have hc : d = 0 ∨ d = 1 ∨ d = 2 ∨ d = 3 ∨ d = 4 := by omega
  have hk : ∃ c : UInt8, letterS d = [c] ∧ wordC c = true ∧ 97 ≤ c.toNat ∧ c.toNat ≤ 122 := by
    rcases hc with rfl | rfl | rfl | rfl | rfl
    · exact ⟨99, by decide⟩
    · exact ⟨107, by decide⟩
    · exact ⟨118, by decide⟩
    · exact ⟨102, by decide⟩
    · exact ⟨111, by decide⟩
  obtain ⟨c, e, h1, h2, h3⟩ := hk
  rw [e]
  have e0 : bt ([c] ++ t) 0 = (c.toNat : Int) := rfl
  have hw : isWordB ([c] ++ t) = true := word_yes (by simp) (by simp; omega) (by rw [e0]; omega) (by rw [e0]; omega) (by rw [List.all_append, ht]; simp [h1])
  unfold nameB rightV
  rw [if_neg (by show ¬ (2 : Int) = 0; decide), if_neg (by show ¬ (2 : Int) = 1; decide), if_pos rfl]
  show (decide ((0 : Int) = 0) && isWordB ([c] ++ t) && (decide ((2 : Int) = 1) || decide ((2 : Int) = 2))) = true
  rw [hw]; rfl
theorem may_dom {r : Rul} {d : Int} (h : mayB r d = true) : 0 ≤ d ∧ d ≤ 4 := by
  rw [may_eq] at h
  simp only [Bool.and_eq_true, decide_eq_true_eq] at h
  exact h.1
theorem name_right {ky : List Int} {r : Rul} {d : Int} {l : List Val} (hm : mayB r d = true) (hl : l.length ≤ 1000000) {i : Nat} (hi : i < l.length) : nameB (nameN ky r d l i) = true := by
  have hd := may_dom hm
  unfold nameN
  split
  · have hlen := Lib.itoa_length_le ((i : Int) + 1) (by omega) (by omega)
    exact name_of hd (by rw [itoa_nn (by omega)]; exact dd_word _) (by omega)
  · split
    · rename_i h2
      have hs := may_size hm h2
      refine name_of hd ?_ ?_
      · unfold ofS
        rw [if_neg (by omega)]
        exact enc_word fun v hv => by
          have := mac_oct ky _ v (List.mem_of_mem_take hv)
          exact this
      · unfold ofS
        rw [if_neg (by omega)]
        simp only [txt, List.length_map, enc_len, List.length_take, mac_len]; omega
    · unfold nameB rightV
      rw [if_neg (by show ¬ (1 : Int) = 0; decide), if_pos rfl]
      rfl
/-! ## Told and told again: plain laws -/
theorem find_one {α : Type} {p : α → Bool} {l : List α} {x : α} (hx : x ∈ l) (hp : p x = true) (h1 : ∀ y ∈ l, p y = true → y = x) : l.find? p = some x := by
  cases h : l.find? p with
  | none => exact absurd hp (by simpa using List.find?_eq_none.1 h x hx)
  | some y => rw [h1 y (List.mem_of_find?_eq_some h) (List.find?_some h)]
theorem ent_mem {ky : List Int} {r : Rul} {d : Int} {l : List Val} {i n : Nat} (hi : i < n) : entN ky r d l i ∈ entsN ky r d l n := List.mem_map.2 ⟨i, List.mem_range.2 hi, rfl⟩
theorem called_own {ky : List Int} {r : Rul} {d : Int} {l : List Val} (hn : l.Nodup) {i : Nat} (hi : i < l.length) : calledN (entsN ky r d l l.length) d (l.getD i ⟨0, 0, []⟩) = (nameN ky r d l i, true) := by
  unfold calledN
  rw [find_one (ent_mem hi) (by show (decide (d = d) && decide (l.getD i ⟨0, 0, []⟩ = l.getD i ⟨0, 0, []⟩)) = true; simp) (fun y hy hp => by
    obtain ⟨j, hj, rfl⟩ := List.mem_map.1 hy
    rw [List.mem_range] at hj
    have e : l.getD j ⟨0, 0, []⟩ = l.getD i ⟨0, 0, []⟩ := by
      have := (Bool.and_eq_true _ _ ▸ hp : _ ∧ _).2
      exact of_decide_eq_true this
    rcases Nat.lt_trichotomy j i with h | h | h
    · exact absurd e.symm (getD_ne hn hi h)
    · rw [h]
    · exact absurd e (getD_ne hn hj h))]
  rfl
theorem names_ne {ky : List Int} {r : Rul} {d : Int} {l : List Val} {n : Nat} (hn : (namesN ky r d l n).Nodup) {i j : Nat} (hi : i < n) (hj : j < i) : nameN ky r d l i ≠ nameN ky r d l j := by
  intro e
  have hp := List.nodup_iff_pairwise_ne.1 hn
  have hg : ∀ k (h : k < (namesN ky r d l n).length), (namesN ky r d l n)[k] = nameN ky r d l k := fun k h => by simp [namesN]
  have h2 := List.pairwise_iff_getElem.1 hp j i (by rw [namesN_len]; omega) (by rw [namesN_len]; omega) hj
  rw [hg, hg] at h2
  exact h2 e.symm
theorem real_own {ky : List Int} {r : Rul} {d : Int} {l : List Val} (hn : (namesN ky r d l l.length).Nodup) {i : Nat} (hi : i < l.length) : realN (entsN ky r d l l.length) d (nameN ky r d l i) = (l.getD i ⟨0, 0, []⟩, true) := by
  unfold realN
  rw [find_one (ent_mem hi) (by show (decide (d = d) && decide (nameN ky r d l i = nameN ky r d l i)) = true; simp) (fun y hy hp => by
    obtain ⟨j, hj, rfl⟩ := List.mem_map.1 hy
    rw [List.mem_range] at hj
    have e : nameN ky r d l j = nameN ky r d l i := by
      have := (Bool.and_eq_true _ _ ▸ hp : _ ∧ _).2
      exact of_decide_eq_true this
    rcases Nat.lt_trichotomy j i with h | h | h
    · exact absurd e.symm (names_ne hn hi h)
    · rw [h]
    · exact absurd e (names_ne hn hj h))]
  rfl
theorem called_far {ky : List Int} {r : Rul} {d d' : Int} {l : List Val} {n : Nat} (h : d ≠ d') (v : Val) : calledN (entsN ky r d l n) d' v = (⟨0, 0, []⟩, false) := by
  unfold calledN
  have : (entsN ky r d l n).find? (fun x => decide (x.dom = d') && decide (x.real = v)) = none := by
    refine List.find?_eq_none.2 fun y hy => ?_
    obtain ⟨j, hj, rfl⟩ := List.mem_map.1 hy
    show ¬ (decide (d = d') && decide ((entN ky r d l j).real = v)) = true
    rw [decide_eq_false h]; simp
  rw [this]
theorem back_build {ky : List Int} {r : Rul} {d : Int} {xs : List Val} (h : mayB r d = true) (h0 : ¬ r.way = 0) : (buildN ky r d xs = (entsN ky r d (unlikeL d xs) (unlikeL d xs).length, 0) ∧ (namesN ky r d (unlikeL d xs) (unlikeL d xs).length).Nodup) ∨ buildN ky r d xs = ([], 8) := by
  rw [build_may h, if_neg h0]
  by_cases hn : (namesN ky r d (unlikeL d xs) (unlikeL d xs).length).Nodup
  · rw [if_pos hn]; exact .inl ⟨rfl, hn⟩
  · rw [if_neg hn]; exact .inr rfl
end Go.Proofs.YtngoaapgdfohjaaGreatDoor.T27
