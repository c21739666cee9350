/- Own text. -/
import Derived.Test.YtngoaapgdfohjaaGreatDoorT14
set_option linter.unusedVariables false
set_option linter.unusedSimpArgs false
set_option maxRecDepth 100000
set_option maxHeartbeats 4000000
namespace Go.Proofs.YtngoaapgdfohjaaGreatDoor.T27
open Go Go.Proofs.YtngoaapgdfohjaaGreatDoor.X Go.Proofs Go.Proofs.YtngoaapgdfohjaaGreatDoor.T28 Go.Proofs.YtngoaapgdfohjaaGreatDoor.TS Go.Proofs.YtngoaapgdfohjaaGreatDoor.TK
/-! ## NamesBack, walked -/
attribute [local irreducible] buildN mayB letterS nameN calledN realN nameB entsN
theorem law_NamesBack (ky : List Int) (ho : Oc ky) (r : Rul) (d : Int) (hd : I64 d) (Ak : Option Addr) (kc : Nat) (xs : List Val) (A : Option Addr) (c : Nat) (o : Val) (hov : o.Wf) (G : Heap) (g : Gl G) (hRk : Rd (Knd.int .u8) G Ak ky) (hkc : ky.length ≤ kc) (hR : Rd kVal G A xs) (hl : xs.length ≤ 9223372036854775807) (hw : ∀ v ∈ xs, v.Wf) :
    FnP Tryz.prog 5 [.agg (callC r d ky Ak kc).toArray, .slice A xs.length c, vV o] G (.bool true) := by
  refine fnP_in Tryz.func5 rfl Tryz.ntmps5 rfl fun w0 Q0 hQ => ?_
  refine go ?_; intro B3
  refine go ?_; intro B5
  refine go ?_
  refine w_stp (p_call rfl rfl rfl (c_Wakes _ g)) ?_
  refine go ?_
  refine w_stp (p_call rfl rfl rfl (c_Great ky Ak kc xs A c _ hR hl)) ?_
  refine go ?_
  refine w_or (y := decide (100 < (o.s.length : Int))) 36 31 rfl (fun h => ?_) (fun h => ?_) ?_
  · refine go ?_; exact w_at
  · refine go ?_; exact w_at
  refine go ?_
  refine w_or (y := decide (r.way = 0)) 42 37 rfl (fun h => ?_) (fun h => ?_) ?_
  · refine go ?_; exact w_at
  · refine go ?_; exact w_at
  refine go ?_
  refine w_or (y := !mayB r d) 50 43 rfl (fun h => ?_) (fun h => ?_) ?_
  · refine go ?_; exact w_at
  · refine go ?_
    refine w_stp (p_on rfl rfl h (p_call rfl rfl rfl (c_MayR r d _))) ?_
    refine go ?_; exact w_at
  refine go ?_
  refine w_cond rfl (fun h1 => ?_) (fun h1 => ?_)
  · refine go ?_
    exact w_ret hQ rfl
  · obtain ⟨h1, hm⟩ := Bool.or_eq_false_iff.1 h1
    obtain ⟨h1, hz⟩ := Bool.or_eq_false_iff.1 h1
    obtain ⟨h1, hol⟩ := Bool.or_eq_false_iff.1 h1
    have hm : mayB r d = true := by simpa using hm
    have hz : ¬ r.way = 0 := of_decide_eq_false hz
    have hdm := may_dom hm
    obtain ⟨gk, gl, gs⟩ := great_no h1
    have hpr : ∀ v ∈ xs, (printV v).length ≤ 10000000 := fun v hv => print_short (gs v hv) (hw v hv)
    refine go ?_
    refine w_call rfl rfl rfl (c_Build ky r d hd Ak kc xs A c _ g hRk hkc (by omega) hR (by omega) hw hpr) fun r1 G1 _ hr1 => ?_
    obtain ⟨A1, c1, rfl, hc1, hR1⟩ := hr1
    have hu := unlike_len d xs
    have hun : (unlikeL d xs).Nodup := unlike_nodup
    rcases back_build (ky := ky) (xs := xs) hm hz with ⟨hbn, hnd⟩ | hbn
    · rw [hbn] at hc1 hR1 ⊢
      dsimp only at hc1 hR1 ⊢
      have hel : (entsN ky r d (unlikeL d xs) (unlikeL d xs).length).length ≤ 1000000 := by rw [entsN_len]; omega
      refine go ?_
      refine w_call rfl rfl rfl (c_UnlikeR d xs A c _ hR.up (by omega) hw) fun r2 G2 _ hr2 => ?_
      obtain ⟨A2, c2, rfl, hc2, hR2⟩ := hr2
      have hwu : ∀ v ∈ unlikeL d xs, v.Wf := fun v hv => hw v (unlike_mem hv).1
      generalize hU : unlikeL d xs = U at *
      generalize hE : entsN ky r d U U.length = E at *
      refine go ?_
      refine w_loop (fun i : Nat => [(69, .int .i64 (i : Int))]) (fun _ => [[(B5, Arr 42 [.int .i64 o.k, .int .i64 o.n, str o.s])], [(B3, Arr 26 (callC r d ky Ak kc))]]) (fun i _ => i ≤ U.length) (fun i => U.length - i) 0 (by omega) ?_
      intro i G3 _ hi
      refine go ?_
      refine w_cd rfl (fun h3 => ?_) (fun h3 => ?_)
      · have hi' : i < U.length := by omega
        have hEi := hR2.val hi'
        have e1 := called_own (ky := ky) (r := r) (d := d) hun hi'
        have e2 := real_own hnd hi'
        have e3 : ∀ v, calledN E ((d + 1) % 5) v = (⟨0, 0, []⟩, false) := fun v => by
          rw [← hE]
          refine called_far (fun h => ?_) v
          omega
        have e4 := name_right (ky := ky) hm (by omega) hi'
        have e5 : (nameN ky r d U i).Wf := name_wf (by omega) hi'
        rw [hE] at e1 e2
        refine go ?_; intro B10
        refine go ?_
        refine w_stp (p_call rfl rfl rfl (c_Called E A1 c1 d (U.getD i ⟨0, 0, []⟩) _ hR1.up hel)) ?_
        rw [e1]
        refine go ?_; intro B11
        refine go ?_
        refine w_stp (p_call rfl rfl rfl (c_Real E A1 c1 d (nameN ky r d U i) _ hR1.up hel)) ?_
        rw [e2]
        refine go ?_; intro B13
        refine go ?_
        refine w_stp (p_call rfl rfl rfl (c_Called E A1 c1 ((d + 1) % 5) (U.getD i ⟨0, 0, []⟩) _ hR1.up hel)) ?_
        rw [e3]
        refine go ?_; intro B15
        refine go ?_
        refine w_or (y := false) 104 101 rfl (fun h => ?_) (fun h => ?_) ?_
        · cases h
        · refine go ?_; exact w_at
        refine go ?_
        refine w_or (y := !decide (U.getD i ⟨0, 0, []⟩ = U.getD i ⟨0, 0, []⟩)) 109 105 rfl (fun h => ?_) (fun h => ?_) ?_
        · cases h
        · refine go ?_; exact w_at
        refine go ?_
        refine w_or (y := false) 112 110 rfl (fun h => ?_) (fun h => ?_) ?_
        · refine go ?_; exact w_at
        · refine go ?_; exact w_at
        refine go ?_
        refine w_or (y := false) 117 113 rfl (fun h => ?_) (fun h => ?_) ?_
        · refine go ?_; exact w_at
        · refine go ?_
          refine w_stp (p_on rfl rfl h (p_call rfl rfl rfl (c_NameR _ e5 _))) ?_
          rw [e4]
          refine go ?_; exact w_at
        refine go ?_
        refine w_condF rfl (by simp) ?_
        refine go ?_
        exact w_again (i + 1) (by omega) (by omega)
      · refine go ?_
        refine w_stp (p_call rfl rfl rfl (c_Called E A1 c1 d o _ hR1.up hel)) ?_
        refine go ?_; intro B17
        refine go ?_
        refine w_stp (p_call rfl rfl rfl (c_CalledR E A1 c1 d o _ hR1.up hel)) ?_
        refine go ?_; intro B19
        refine go ?_
        refine w_stp (p_call rfl rfl rfl (c_Real E A1 c1 d o _ hR1.up hel)) ?_
        refine go ?_; intro B21
        refine go ?_
        refine w_stp (p_call rfl rfl rfl (c_RealR E A1 c1 d o _ hR1.up hel)) ?_
        refine go ?_; intro B23
        refine go ?_
        refine w_and (y := ((calledN E d o).2 == (calledN E d o).2)) 158 154 rfl (fun h => ?_) (fun h => ?_) ?_
        · refine go ?_
          refine w_stp (p_on rfl rfl h (Stp.pure fun Q rest a w G1 hl E S k => o_eqB E rfl rfl rfl (by kernel_rfl) k)) ?_
          refine go ?_; exact w_at
        · refine go ?_; exact w_at
        refine go ?_
        refine w_and (y := decide ((realN E d o).1 = (realN E d o).1)) 163 159 rfl (fun h => ?_) (fun h => ?_) ?_
        · refine go ?_
          exact w_at
        · refine go ?_; exact w_at
        refine go ?_
        refine w_and (y := ((realN E d o).2 == (realN E d o).2)) 168 164 rfl (fun h => ?_) (fun h => ?_) ?_
        · refine go ?_
          refine w_stp (p_on rfl rfl h (Stp.pure fun Q rest a w G1 hl E S k => o_eqB E rfl rfl rfl (by kernel_rfl) k)) ?_
          refine go ?_; exact w_at
        · refine go ?_; exact w_at
        refine go ?_
        refine w_ret hQ ?_
        simp
        rfl
    · rw [hbn] at hc1 hR1 ⊢
      dsimp only at hc1 hR1 ⊢
      refine go ?_
      exact w_ret hQ rfl
end Go.Proofs.YtngoaapgdfohjaaGreatDoor.T27
