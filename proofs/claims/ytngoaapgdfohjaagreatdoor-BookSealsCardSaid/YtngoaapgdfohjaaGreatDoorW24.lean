/- Own text. -/
import Derived.Test.YtngoaapgdfohjaaGreatDoorW23
set_option linter.unusedVariables false
set_option linter.unusedSimpArgs false
set_option maxRecDepth 100000
set_option maxHeartbeats 4000000
namespace Go.Proofs.YtngoaapgdfohjaaGreatDoor.T27
open Go Go.Proofs.YtngoaapgdfohjaaGreatDoor.X Go.Proofs Go.Proofs.YtngoaapgdfohjaaGreatDoor.T28 Go.Proofs.YtngoaapgdfohjaaGreatDoor.TS Go.Proofs.YtngoaapgdfohjaaGreatDoor.TK
/-! ## The law: another seal is refused -/
section
attribute [local irreducible] parseB bookB printB BK0 openS sealS macR
theorem law_BookSeals (b : Book) (a : Bk) (key : List Int) (ho : Oc key) (A : Option Addr) (c : Nat) (hc : key.length ≤ c) (hc2 : key.length ≤ 9223372036854775807) (other : List Int) (ho2 : Oc other) (A2 : Option Addr) (c2 : Nat) (hd : other.length ≤ c2) (hd2 : other.length ≤ 9223372036854775807) (G : Heap) (g : Gl G) (hB : RdG G b a) (hR : Rd (Knd.int .u8) G A key) (hR2 : Rd (Knd.int .u8) G A2 other) :
    FnP Tryz.prog 8 [vB b a, .slice A key.length c, .slice A2 other.length c2] G (.bool true) := by
  refine fnP_in Tryz.func8 rfl Tryz.ntmps8 rfl fun w0 Q0 hQ => ?_
  refine go ?_; intro B2
  refine go ?_
  refine w_stp (p_call rfl rfl rfl (c_wakes29 _ g.up)) ?_
  refine go ?_
  refine go ?_
  refine w_call rfl rfl rfl (c_greatG b a key.length A c _ hB.up) fun v G1 _ hr => ?_
  obtain ⟨t, rfl, ht⟩ := hr
  refine go ?_
  refine w_or (y := decide (200 < (other.length : Int))) 19 15 rfl (fun h => ?_) (fun h => ?_) ?_
  · refine go ?_; exact w_at
  · refine go ?_; exact w_at
  refine go ?_
  refine w_or (y := !bookB b) 24 20 rfl (fun h => ?_) (fun h => ?_) ?_
  · refine go ?_; exact w_at
  · have h' : t = false := (Bool.or_eq_false_iff.1 h).1
    have hb := hB.small (ht h').1
    refine go ?_
    refine w_stp (p_on rfl rfl h (p_call rfl rfl rfl (c_BRightR b a _ hb.up))) ?_
    refine go ?_; exact w_at
  refine go ?_
  refine w_cond rfl (fun h => ?_) (fun h => ?_)
  · refine go ?_
    exact w_ret hQ rfl
  simp only [Bool.or_eq_false_iff, Bool.not_eq_false', decide_eq_false_iff_not] at h
  obtain ⟨⟨h1, h2⟩, h3⟩ := h
  obtain ⟨hs, hk⟩ := ht h1
  have hb := hB.small hs
  have hsm := hs.small
  have hbR := hb.right h3
  have hol := openS_small hbR hs
  have hsl := seal_len other (openS b)
  have hps := sealed_small hbR hs other
  have hpp := parse_sealed h3 hbR key other ho
  have hp1 : macR other (byts (openS b)) = macR key (byts (openS b)) → (parseB key (openS b ++ sealS other (openS b))).1 = b ∧ (parseB key (openS b ++ sealS other (openS b))).2 = 0 := fun h => by rw [hpp, if_pos h]; exact ⟨rfl, rfl⟩
  have hp2 : ¬ macR other (byts (openS b)) = macR key (byts (openS b)) → (parseB key (openS b ++ sealS other (openS b))).1 = BK0 ∧ (parseB key (openS b ++ sealS other (openS b))).2 = 11 := fun h => by rw [hpp, if_neg h]; exact ⟨rfl, rfl⟩
  refine go ?_
  refine w_stp (p_call rfl rfl rfl (c_Open29 b a _ hb.up hsm)) ?_
  refine go ?_
  refine w_stp (p_call rfl rfl rfl (c_SealRB other ho2 A2 c2 (openS b) _ hR2.up (by omega) (by omega))) ?_
  refine go ?_
  refine w_call rfl rfl rfl (f_Parse (openS b ++ sealS other (openS b)) key ho A c hps.1 hps.2 _ g.up hR.up hc (by omega)) fun v G2 _ hr => ?_
  obtain ⟨a2, rfl, hRB, hSm⟩ := hr
  generalize (parseB key (openS b ++ sealS other (openS b))).2 = cd at hp1 hp2 ⊢
  generalize (parseB key (openS b ++ sealS other (openS b))).1 = b2 at hp1 hp2 hRB hSm ⊢
  refine go ?_; intro B5
  refine go ?_; intro B6
  refine go ?_
  refine w_stp (p_call rfl rfl rfl (c_SealRB other ho2 A2 c2 (openS b) _ hR2.up (by omega) (by omega))) ?_
  refine go ?_
  refine w_stp (p_call rfl rfl rfl (c_SealRB key ho A c (openS b) _ hR.up (by omega) (by omega))) ?_
  refine go ?_
  refine w_cond rfl (fun h => ?_) (fun h => ?_)
  · obtain ⟨rfl, rfl⟩ := hp1 (seal_same.1 (eq_of_beq h))
    refine go ?_
    refine w_stp (p_build (cs := #[.int .i64 0, .int .i64 0]) rfl rfl (by kernel_rfl)) ?_
    refine w_stp (p_eqF (a := 0) (b := 0) (c := 0) (e := 0) rfl rfl rfl rfl) ?_
    rw [decide_eq_true (rfl : (0 : Int) = 0)]
    refine go ?_
    refine w_stp (p_on rfl rfl rfl (p_call rfl rfl rfl (c_SameBook b2 b2 a a2 _ hb.up hRB.up))) ?_
    rw [decide_eq_true (rfl : b2 = b2)]
    refine go ?_
    exact w_ret hQ rfl
  · obtain ⟨rfl, rfl⟩ := hp2 (fun hm => by rw [seal_same.2 hm, beq_self_eq_true] at h; cases h)
    refine go ?_
    refine w_stp (p_build (cs := #[.int .i64 11, .int .i64 0]) rfl rfl (by kernel_rfl)) ?_
    refine w_stp (p_eqF (a := 11) (b := 0) (c := 11) (e := 0) rfl rfl rfl rfl) ?_
    rw [decide_eq_true (rfl : (11 : Int) = 11)]
    refine go ?_
    refine w_stp (p_on rfl rfl rfl (p_build (cs := (bookC BK0 AK0).toArray) rfl rfl (by unfold BK0; kernel_rfl))) ?_
    refine w_stp (p_on rfl rfl rfl (p_call rfl rfl rfl (c_SameBook BK0 BK0 a2 AK0 _ hRB.up (rdB0 _)))) ?_
    rw [decide_eq_true (rfl : BK0 = BK0)]
    refine go ?_
    exact w_ret hQ rfl
end
end Go.Proofs.YtngoaapgdfohjaaGreatDoor.T27
