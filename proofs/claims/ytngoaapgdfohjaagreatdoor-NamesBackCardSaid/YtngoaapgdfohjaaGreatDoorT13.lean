/- Own text. -/
import Derived.Test.YtngoaapgdfohjaaGreatDoorT12
set_option linter.unusedVariables false
set_option linter.unusedSimpArgs false
set_option maxRecDepth 100000
set_option maxHeartbeats 4000000
namespace Go.Proofs.YtngoaapgdfohjaaGreatDoor.T27
open Go Go.Proofs.YtngoaapgdfohjaaGreatDoor.X Go.Proofs Go.Proofs.YtngoaapgdfohjaaGreatDoor.T28 Go.Proofs.YtngoaapgdfohjaaGreatDoor.TS Go.Proofs.YtngoaapgdfohjaaGreatDoor.TK
/-! ## When two values have one name: plain laws -/
theorem name_inj {ky : List Int} {r : Rul} {d : Int} {l : List Val} (h2 : r.way ≠ 2) (hn : l.Nodup) (hl : l.length ≤ 1000000) {i k : Nat} (hi : i < l.length) (hk : k < i) : nameN ky r d l i ≠ nameN ky r d l k := by
  intro e
  unfold nameN at e
  by_cases h1 : r.way = 1
  · rw [if_pos h1, if_pos h1] at e
    have e2 := List.append_cancel_left (congrArg Val.s e)
    have := itoa_inj (by unfold I64; omega) (by unfold I64; omega) e2
    omega
  · rw [if_neg h1, if_neg h1, if_neg h2, if_neg h2] at e
    have e2 := congrArg Val.n e
    dsimp only at e2
    have := (rank_eq (vmem (d := ⟨0, 0, []⟩) hi) (vmem (d := ⟨0, 0, []⟩) (show k < l.length by omega)) (getD_ne hn hi hk)).2
    omega
theorem names_nodup {ky : List Int} {r : Rul} {d : Int} {l : List Val} (h2 : r.way ≠ 2) (hn : l.Nodup) (hl : l.length ≤ 1000000) : ∀ n, n ≤ l.length → (namesN ky r d l n).Nodup := by
  intro n
  induction n with
  | zero => intro _; simp [namesN]
  | succ n ih =>
    intro h
    refine nodup_step (ih (by omega)) ?_
    intro hm
    unfold namesN at hm
    obtain ⟨k, hk, e⟩ := List.mem_map.1 hm
    rw [List.mem_range] at hk
    exact name_inj h2 hn hl (show n < l.length by omega) hk e.symm
/-- Whether two of the names up to here are one. -/
def clB (ky : List Int) (r : Rul) (d : Int) (l : List Val) (i k : Nat) : Bool := decide (r.way = 2) && (decide (¬ (namesN ky r d l i).Nodup) || decide (nameN ky r d l i ∈ namesN ky r d l k))
theorem clB_k {ky : List Int} {r : Rul} {d : Int} {l : List Val} {i k : Nat} : (clB ky r d l i k || (decide (r.way = 2) && decide (nameN ky r d l i = nameN ky r d l k))) = clB ky r d l i (k + 1) := by
  unfold clB
  rw [← namesN_step]
  cases decide (r.way = 2)
  · rfl
  · simp only [Bool.true_and, Bool.or_assoc]
    congr 1
    rw [← Bool.decide_or]
    refine decide_eq_decide.2 ?_
    rw [List.mem_append, List.mem_singleton]
theorem clB_i {ky : List Int} {r : Rul} {d : Int} {l : List Val} {i : Nat} : clB ky r d l i i = clB ky r d l (i + 1) 0 := by
  unfold clB
  congr 1
  have e : (nameN ky r d l (i + 1) ∈ namesN ky r d l 0) = False := by simp [namesN]
  rw [← Bool.decide_or, ← Bool.decide_or]
  refine decide_eq_decide.2 ?_
  rw [e, or_false]
  constructor
  · rintro (h | h)
    · intro hn; rw [← namesN_step, List.nodup_append] at hn; exact h hn.1
    · exact names_bad (by omega) h
  · intro h
    by_cases hn : (namesN ky r d l i).Nodup
    · refine .inr (Classical.byContradiction fun hm => h (nodup_step hn hm))
    · exact .inl hn
theorem build_clash {ky : List Int} {r : Rul} {d : Int} {xs : List Val} (h : mayB r d = true) (hl : xs.length ≤ 1000000) : ∃ l : List Ent, l.length ≤ xs.length ∧ buildN ky r d xs = (l, if clB ky r d (unlikeL d xs) (unlikeL d xs).length 0 = true then 8 else 0) := by
  have hu := unlike_len d xs
  have e : clB ky r d (unlikeL d xs) (unlikeL d xs).length 0 = (decide (r.way = 2) && decide (¬ (namesN ky r d (unlikeL d xs) (unlikeL d xs).length).Nodup)) := by
    unfold clB
    have hz : ¬ nameN ky r d (unlikeL d xs) (unlikeL d xs).length ∈ namesN ky r d (unlikeL d xs) 0 := by show ¬ _ ∈ ([] : List Val); simp
    rw [decide_eq_false hz, Bool.or_false]
  rw [build_may h, e]
  by_cases h2 : r.way = 2
  · rw [if_neg (by omega), decide_eq_true h2, Bool.true_and]
    by_cases hn : (namesN ky r d (unlikeL d xs) (unlikeL d xs).length).Nodup
    · rw [if_pos hn, if_neg (by simpa using hn)]; exact ⟨_, by rw [entsN_len]; exact hu, rfl⟩
    · rw [if_neg hn, if_pos (by simpa using hn)]; exact ⟨_, by simp, rfl⟩
  · rw [decide_eq_false h2, Bool.false_and]
    by_cases h0 : r.way = 0
    · rw [if_pos h0]; exact ⟨_, by simp, rfl⟩
    · rw [if_neg h0, if_pos (names_nodup h2 unlike_nodup (by omega) _ (Nat.le_refl _))]; exact ⟨_, by rw [entsN_len]; exact hu, rfl⟩
/-! ## NamesClash, walked -/
attribute [local irreducible] buildN mayB letterS nameN clB
theorem law_NamesClash (ky : List Int) (ho : Oc ky) (r : Rul) (d : Int) (hd : I64 d) (Ak : Option Addr) (kc : Nat) (xs : List Val) (A : Option Addr) (c : Nat) (G : Heap) (g : Gl G) (hRk : Rd (Knd.int .u8) G Ak ky) (hkc : ky.length ≤ kc) (hR : Rd kVal G A xs) (hl : xs.length ≤ 9223372036854775807) (hw : ∀ v ∈ xs, v.Wf) :
    FnP Tryz.prog 4 [.agg (callC r d ky Ak kc).toArray, .slice A xs.length c] G (.bool true) := by
  refine fnP_in Tryz.func4 rfl Tryz.ntmps4 rfl fun w0 Q0 hQ => ?_
  refine go ?_; intro B2
  refine go ?_
  refine w_stp (p_call rfl rfl rfl (c_Wakes _ g)) ?_
  refine go ?_
  refine w_stp (p_call rfl rfl rfl (c_Great ky Ak kc xs A c _ hR hl)) ?_
  refine go ?_
  refine w_or (y := !mayB r d) 24 17 rfl (fun h => ?_) (fun h => ?_) ?_
  · refine go ?_; exact w_at
  · refine go ?_
    refine w_stp (p_on rfl rfl h (p_call rfl rfl rfl (c_MayR r d _))) ?_
    refine go ?_; exact w_at
  refine go ?_
  refine w_cond rfl (fun h1 => ?_) (fun h1 => ?_)
  · refine go ?_
    exact w_ret hQ rfl
  · obtain ⟨h1, hm⟩ := Bool.or_eq_false_iff.1 h1
    have hm : mayB r d = true := by simpa using hm
    obtain ⟨gk, gl, gs⟩ := great_no h1
    have hpr : ∀ v ∈ xs, (printV v).length ≤ 10000000 := fun v hv => print_short (gs v hv) (hw v hv)
    refine go ?_
    refine w_call rfl rfl rfl (c_Build ky r d hd Ak kc xs A c _ g hRk hkc (by omega) hR (by omega) hw hpr) fun r1 G1 _ hr1 => ?_
    obtain ⟨A1, c1, rfl, hc1, hR1⟩ := hr1
    obtain ⟨l1, hl1, hbn⟩ := build_clash (ky := ky) (xs := xs) hm (by omega)
    rw [hbn] at hc1 hR1 ⊢
    dsimp only at hc1 hR1 ⊢
    refine go ?_
    refine w_call rfl rfl rfl (c_UnlikeR d xs A c _ hR.up (by omega) hw) fun r2 G2 _ hr2 => ?_
    obtain ⟨A2, c2, rfl, hc2, hR2⟩ := hr2
    have hu := unlike_len d xs
    have hwu : ∀ v ∈ unlikeL d xs, v.Wf := fun v hv => hw v (unlike_mem hv).1
    have hpu : ∀ v ∈ unlikeL d xs, (printV v).length ≤ 10000000 := fun v hv => hpr v (unlike_mem hv).1
    generalize hU : unlikeL d xs = U at *
    refine go ?_
    refine w_as 7 (.bool (clB ky r d U 0 0)) rfl (by unfold clB; simp [namesN]) ?_
    refine w_loop (fun i : Nat => [(7, .bool (clB ky r d U i 0)), (42, .int .i64 (i : Int))]) (fun _ => [[(B2, Arr 26 (callC r d ky Ak kc))]]) (fun i _ => i ≤ U.length) (fun i => U.length - i) 0 (by omega) ?_
    intro i G3 _ hi
    refine go ?_
    refine w_cd rfl (fun h3 => ?_) (fun h3 => ?_)
    · have hi' : i < U.length := by omega
      refine go ?_
      refine w_loop (fun k : Nat => [(7, .bool (clB ky r d U i k)), (46, .int .i64 (k : Int))]) (fun _ => [[(B2, Arr 26 (callC r d ky Ak kc))]]) (fun k _ => k ≤ i) (fun k => i - k) 0 (by omega) ?_
      intro k G4 _ hk
      refine go ?_
      refine w_cd rfl (fun h4 => ?_) (fun h4 => ?_)
      · have hk' : k < i := by omega
        refine go ?_
        refine w_dtB (yb := clB ky r d U i k || (decide (r.way = 2) && decide (nameN ky r d U i = nameN ky r d U k))) 28 76 (by kernel_rfl) ?_ ?_
        · refine dg ?_
          refine dr_or 50 rfl (fun h => ?_) (fun h => ?_)
          · refine dg ?_
            exact rfl
          · refine dg ?_
            refine dr_and 55 rfl (fun h => ?_) (fun h => ?_)
            · refine dg ?_
              refine .cons (p_on rfl rfl h (p_call rfl rfl rfl (c_NameRef ky ho r d Ak kc U A2 c2 i hi' (may_size hm) _ hRk.up (by omega) hR2.up (by omega) hwu hpu))) (dg ?_)
              refine .cons (p_on rfl rfl h (p_call rfl rfl rfl (c_NameRef ky ho r d Ak kc U A2 c2 k (by omega) (may_size hm) _ hRk.up (by omega) hR2.up (by omega) hwu hpu))) (dg ?_)
              exact rfl
            · refine dg ?_
              exact rfl
        refine go ?_
        rw [clB_k]
        refine go ?_
        exact w_again (k + 1) (by omega) (by omega)
      · have hke : k = i := by omega
        subst hke
        rw [clB_i (i := k)]
        refine go ?_
        exact w_again (k + 1) (by omega) (by omega)
    · have hie : i = U.length := by omega
      subst hie
      cases hcl : clB ky r d U U.length 0 with
      | true =>
        rw [hcl] at *
        refine go ?_
        refine w_stp (Stp.pure fun Q rest a w G1 hl E S k => o_eqB E rfl rfl rfl (by kernel_rfl) k) ?_
        refine go ?_
        refine w_and (y := true) 89 83 rfl (fun h => ?_) (fun h => ?_) ?_
        · refine go ?_
          refine w_stp (p_on rfl rfl h (Stp.pure fun Q rest a w G1 hl E S k => o_eqB E rfl rfl rfl (by kernel_rfl) k)) ?_
          refine go ?_; exact w_at
        · cases h
        refine go ?_
        exact w_ret hQ rfl
      | false =>
        rw [hcl] at *
        refine go ?_
        refine w_stp (Stp.pure fun Q rest a w G1 hl E S k => o_eqB E rfl rfl rfl (by kernel_rfl) k) ?_
        refine go ?_
        refine w_and (y := true) 89 83 rfl (fun h => ?_) (fun h => ?_) ?_
        · refine go ?_
          refine w_stp (p_on rfl rfl h (Stp.pure fun Q rest a w G1 hl E S k => o_eqB E rfl rfl rfl (by kernel_rfl) k)) ?_
          refine go ?_; exact w_at
        · cases h
        refine go ?_
        exact w_ret hQ rfl
end Go.Proofs.YtngoaapgdfohjaaGreatDoor.T27
