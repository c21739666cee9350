/- Own text. -/
import Derived.Test.YtngoaapgdfohjaaGreatDoorT9
set_option linter.unusedVariables false
set_option linter.unusedSimpArgs false
set_option maxRecDepth 100000
set_option maxHeartbeats 4000000
namespace Go.Proofs.YtngoaapgdfohjaaGreatDoor.T27
open Go Go.Proofs.YtngoaapgdfohjaaGreatDoor.X Go.Proofs Go.Proofs.YtngoaapgdfohjaaGreatDoor.T28 Go.Proofs.YtngoaapgdfohjaaGreatDoor.TS Go.Proofs.YtngoaapgdfohjaaGreatDoor.TK
/-! ## The laws' own calls -/
def w7 : Val := ⟨1, 7, []⟩
def wA : Val := ⟨2, 0, [97]⟩
theorem itoa12 : Lib.itoa 1 = [49] ∧ Lib.itoa 2 = [50] := by
  constructor
  · rw [itoa_nn (by decide)]; exact dd_small (by decide)
  · rw [itoa_nn (by decide)]; exact dd_small (by decide)
theorem wake_build : buildN [] ⟨1, 0⟩ 2 [w7, wA, w7] = ([⟨2, ⟨2, 0, [118, 49]⟩, w7⟩, ⟨2, ⟨2, 0, [118, 50]⟩, wA⟩], 0) := by
  have hu : unlikeL 2 [w7, wA, w7] = [w7, wA] := by decide +kernel
  have hn : ∀ l, nameN [] ⟨1, 0⟩ 2 l 0 = ⟨2, 0, [118, 49]⟩ ∧ nameN [] ⟨1, 0⟩ 2 l 1 = ⟨2, 0, [118, 50]⟩ := fun l => by
    have hl : letterS 2 = [118] := by decide
    unfold nameN
    rw [if_pos rfl, if_pos rfl, hl]
    have e1 : ((0 : Nat) : Int) + 1 = 1 := by decide
    have e2 : ((1 : Nat) : Int) + 1 = 2 := by decide
    rw [e1, e2, itoa12.1, itoa12.2]
    exact ⟨rfl, rfl⟩
  have hm : mayB ⟨1, 0⟩ 2 = true := by decide +kernel
  unfold buildN
  rw [if_neg (by rw [hm]; simp), if_neg (by decide), hu]
  have e : namesN [] ⟨1, 0⟩ 2 [w7, wA] [w7, wA].length = [⟨2, 0, [118, 49]⟩, ⟨2, 0, [118, 50]⟩] := by
    show [nameN [] ⟨1, 0⟩ 2 [w7, wA] 0, nameN [] ⟨1, 0⟩ 2 [w7, wA] 1] = _
    rw [(hn _).1, (hn _).2]
  have e2 : entsN [] ⟨1, 0⟩ 2 [w7, wA] [w7, wA].length = [⟨2, ⟨2, 0, [118, 49]⟩, w7⟩, ⟨2, ⟨2, 0, [118, 50]⟩, wA⟩] := by
    show [(⟨2, nameN [] ⟨1, 0⟩ 2 [w7, wA] 0, w7⟩ : Ent), ⟨2, nameN [] ⟨1, 0⟩ 2 [w7, wA] 1, wA⟩] = _
    rw [(hn _).1, (hn _).2]
  rw [e, e2, if_pos (by decide)]
theorem c_Wakes (G : Heap) (g : Gl G) : FnP Tryz.prog 10 [] G (.bool true) := by
  refine fnP_in Tryz.func10 rfl Tryz.ntmps10 rfl fun w0 Q0 hQ => ?_
  refine go ?_
  refine w_stp (p_build (cs := (valCells w7).toArray) rfl rfl (by kernel_rfl)) ?_
  refine w_stp (p_build (cs := (valCells wA).toArray) rfl rfl (by kernel_rfl)) ?_
  refine go ?_; intro B1
  refine go ?_; intro B2
  refine go ?_
  refine w_stp (p_build (cs := #[.int .i64 1, .int .i64 0]) rfl rfl (by kernel_rfl)) ?_
  refine go ?_
  refine w_lit (K := kVal) [w7, wA, w7] rfl rfl rfl (cs := (valCells w7 ++ (valCells wA ++ valCells w7)).toArray) (by kernel_rfl) ⟨rfl, rfl, rfl, rfl⟩ fun b G1 _ hR1 => ?_
  refine w_call rfl rfl rfl (c_Build [] ⟨1, 0⟩ 2 (by unfold I64; omega) none 0 [w7, wA, w7] (some ⟨b, 0, none⟩) 3 _ g.up (.inl rfl) (Nat.le_refl _) (by decide) hR1 (by decide) (fun v hv => by
      simp only [List.mem_cons, List.not_mem_nil, or_false] at hv
      rcases hv with rfl | rfl | rfl <;> exact ⟨by unfold I64; decide, by unfold I64; decide, by decide⟩) (fun v hv => by
      simp only [List.mem_cons, List.not_mem_nil, or_false] at hv
      have h1 := printV_len (v := w7) (by unfold I64 w7; decide)
      have h2 := printV_len (v := wA) (by unfold I64 wA; decide)
      rcases hv with rfl | rfl | rfl <;> omega)) fun r G2 _ hr => ?_
  obtain ⟨A2, c2, rfl, hc2, hR2⟩ := hr
  rw [wake_build] at hc2 hR2 ⊢
  refine go ?_
  refine w_on rfl rfl (by decide) ?_
  refine w_stp (p_build (cs := #[.int .i64 2, .int .i64 0, str [118, 49]]) rfl rfl (by kernel_rfl)) ?_
  refine go ?_
  refine w_on rfl rfl (by decide) ?_
  refine w_stp (p_build (cs := (entCells ⟨2, ⟨2, 0, [118, 49]⟩, w7⟩).toArray) rfl rfl (by kernel_rfl)) ?_
  refine w_on rfl rfl (by decide) ?_
  refine w_stp (p_build (cs := #[.int .i64 2, .int .i64 0, str [118, 50]]) rfl rfl (by kernel_rfl)) ?_
  refine go ?_
  refine w_on rfl rfl (by decide) ?_
  refine w_stp (p_build (cs := (entCells ⟨2, ⟨2, 0, [118, 50]⟩, wA⟩).toArray) rfl rfl (by kernel_rfl)) ?_
  refine w_on rfl rfl (by decide) ?_
  refine w_lit (K := kEnt) [⟨2, ⟨2, 0, [118, 49]⟩, w7⟩, ⟨2, ⟨2, 0, [118, 50]⟩, wA⟩] rfl rfl rfl (cs := (entCells ⟨2, ⟨2, 0, [118, 49]⟩, w7⟩ ++ entCells ⟨2, ⟨2, 0, [118, 50]⟩, wA⟩).toArray) (by kernel_rfl) ⟨rfl, rfl, rfl⟩ fun b3 G3 _ hR3 => ?_
  refine w_on rfl rfl (by decide) ?_
  refine w_stp (p_call rfl rfl rfl (c_Same [⟨2, ⟨2, 0, [118, 49]⟩, w7⟩, ⟨2, ⟨2, 0, [118, 50]⟩, wA⟩] [⟨2, ⟨2, 0, [118, 49]⟩, w7⟩, ⟨2, ⟨2, 0, [118, 50]⟩, wA⟩] A2 (some ⟨b3, 0, none⟩) c2 2 _ hR2.up hR3 (by decide) (by decide))) ?_
  refine go ?_
  refine w_ret hQ ?_
  rw [decide_eq_true rfl]; rfl
/-! ## More than a statement takes -/
def greatK (ky : List Int) (xs : List Val) : Bool := xs.any (fun v => decide (100 < (v.s.length : Int))) || (decide (200 < (ky.length : Int)) || decide (40 < (xs.length : Int)))
theorem great_at {ky : List Int} {xs : List Val} {i : Nat} (hi : i < xs.length) (h : decide (100 < ((xs.getD i ⟨0, 0, []⟩).s.length : Int)) = true) : greatK ky xs = true := by
  unfold greatK
  rw [List.any_eq_true.2 ⟨_, vmem hi, h⟩]; rfl
theorem great_end {ky : List Int} {xs : List Val} (h : ∀ j, j < xs.length → decide (100 < ((xs.getD j ⟨0, 0, []⟩).s.length : Int)) = false) : greatK ky xs = (decide (200 < (ky.length : Int)) || decide (40 < (xs.length : Int))) := by
  unfold greatK
  rw [List.any_eq_false.2 fun v hv => by
    obtain ⟨j, hj, rfl⟩ := List.mem_iff_getElem.1 hv
    have := h j hj
    rw [List.getD_eq_getElem?_getD, List.getElem?_eq_getElem hj, Option.getD_some] at this
    rw [this]; simp]
  rfl
theorem c_Great (ky : List Int) (Ak : Option Addr) (kc : Nat) (xs : List Val) (A : Option Addr) (c : Nat) (G : Heap) (hR : Rd kVal G A xs) (hl : xs.length ≤ 9223372036854775807) :
    FnP Tryz.prog 11 [.slice Ak ky.length kc, .slice A xs.length c] G (.bool (greatK ky xs)) := by
  refine fnP_in Tryz.func11 rfl Tryz.ntmps11 rfl fun w0 Q0 hQ => ?_
  refine go ?_
  refine w_loop (fun i : Nat => [(9, .int .i64 (i : Int))]) (fun _ => []) (fun i _ => i ≤ xs.length ∧ ∀ j, j < i → decide (100 < ((xs.getD j ⟨0, 0, []⟩).s.length : Int)) = false) (fun i => xs.length - i) 0 ⟨by omega, fun j hj => by omega⟩ ?_
  rintro i G1 _ ⟨hi, hs⟩
  refine go ?_
  refine w_cd rfl (fun h3 => ?_) (fun h3 => ?_)
  · have hi' : i < xs.length := by omega
    have hE := hR.val hi'
    refine go ?_; intro B6
    refine go ?_
    refine w_cond rfl (fun h4 => ?_) (fun h4 => ?_)
    · refine go ?_
      refine w_ret hQ ?_
      rw [great_at hi' h4]; rfl
    · refine go ?_
      refine w_again (i + 1) ⟨by omega, fun j hj => ?_⟩ (by omega)
      rcases Nat.lt_or_ge j i with h | h
      · exact hs j h
      · obtain rfl : j = i := by omega
        exact h4
  · have : i = xs.length := by omega
    subst this
    refine go ?_
    refine w_or (y := decide (40 < (xs.length : Int))) 25 21 rfl (fun h => ?_) (fun h => ?_) ?_
    · refine go ?_; exact w_at
    · refine go ?_; exact w_at
    refine go ?_
    refine w_ret hQ ?_
    rw [great_end hs]; rfl
end Go.Proofs.YtngoaapgdfohjaaGreatDoor.T27

set_option linter.unusedVariables false
set_option linter.unusedSimpArgs false
set_option maxRecDepth 100000
set_option maxHeartbeats 1000000
namespace Go.Proofs.YtngoaapgdfohjaaGreatDoor.T27
open Go Go.Proofs.YtngoaapgdfohjaaGreatDoor.X Go.Proofs Go.Proofs.YtngoaapgdfohjaaGreatDoor.T28 Go.Proofs.YtngoaapgdfohjaaGreatDoor.TS Go.Proofs.YtngoaapgdfohjaaGreatDoor.TK
/-! ## NamesBuild, walked -/
abbrev callC (r : Rul) (d : Int) (ky : List Int) (A : Option Addr) (c : Nat) : List Value := [.int .i64 r.way, .int .i64 r.size, .int .i64 d, .slice A ky.length c]
theorem great_no {ky : List Int} {xs : List Val} (h : greatK ky xs = false) : ky.length ≤ 200 ∧ xs.length ≤ 40 ∧ ∀ v ∈ xs, (v.s.length : Int) ≤ 100 := by
  unfold greatK at h
  simp only [Bool.or_eq_false_iff, decide_eq_false_iff_not, List.any_eq_false, decide_eq_true_eq] at h
  exact ⟨by omega, by omega, fun v hv => by have := h.1 v hv; omega⟩
theorem may_size {r : Rul} {d : Int} (h : mayB r d = true) (h2 : r.way = 2) : 1 ≤ r.size ∧ r.size ≤ 16 := by
  rw [may_eq] at h
  unfold ruledB at h
  simp only [Bool.and_eq_true, Bool.or_eq_true, decide_eq_true_eq] at h
  omega
theorem build_may {ky : List Int} {r : Rul} {d : Int} {xs : List Val} (h : mayB r d = true) : buildN ky r d xs = if r.way = 0 then ([], 0) else if (namesN ky r d (unlikeL d xs) (unlikeL d xs).length).Nodup then (entsN ky r d (unlikeL d xs) (unlikeL d xs).length, 0) else ([], 8) := by
  unfold buildN
  rw [if_neg (by rw [h]; simp)]
theorem build_both {ky : List Int} {r : Rul} {d : Int} {xs : List Val} (h : mayB r d = true) : ∃ l : List Ent, l.length ≤ xs.length ∧ ((buildR ky r d xs = (l, true) ∧ buildN ky r d xs = (l, 0)) ∨ (buildR ky r d xs = ([], false) ∧ buildN ky r d xs = ([], 8))) := by
  rw [build_may h]
  unfold buildR
  by_cases h0 : r.way = 0
  · rw [if_pos h0, if_pos h0]; exact ⟨[], by simp, .inl ⟨rfl, rfl⟩⟩
  · rw [if_neg h0, if_neg h0]
    by_cases h1 : (namesN ky r d (unlikeL d xs) (unlikeL d xs).length).Nodup
    · rw [if_pos h1, if_pos h1]; exact ⟨_, by rw [entsN_len]; exact unlike_len d xs, .inl ⟨rfl, rfl⟩⟩
    · rw [if_neg h1, if_neg h1]; exact ⟨[], by simp, .inr ⟨rfl, rfl⟩⟩
theorem no_may {ky : List Int} {r : Rul} {d : Int} {xs : List Val} (h : mayB r d = false) : buildN ky r d xs = ([], 1) := by unfold buildN; rw [if_pos h]
attribute [local irreducible] buildN buildR mayB letterS
theorem law_NamesBuild (ky : List Int) (ho : Oc ky) (r : Rul) (d : Int) (hd : I64 d) (Ak : Option Addr) (kc : Nat) (xs : List Val) (A : Option Addr) (c : Nat) (G : Heap) (g : Gl G) (hRk : Rd (Knd.int .u8) G Ak ky) (hkc : ky.length ≤ kc) (hR : Rd kVal G A xs) (hl : xs.length ≤ 9223372036854775807) (hw : ∀ v ∈ xs, v.Wf) :
    FnP Tryz.prog 3 [.agg (callC r d ky Ak kc).toArray, .slice A xs.length c] G (.bool true) := by
  refine fnP_in Tryz.func3 rfl Tryz.ntmps3 rfl fun w0 Q0 hQ => ?_
  refine go ?_; intro B2
  refine go ?_
  refine w_stp (p_call rfl rfl rfl (c_Wakes _ g)) ?_
  refine go ?_
  refine w_stp (p_call rfl rfl rfl (c_Great ky Ak kc xs A c _ hR hl)) ?_
  refine go ?_
  refine w_cond rfl (fun h1 => ?_) (fun h1 => ?_)
  · refine go ?_
    exact w_ret hQ rfl
  · obtain ⟨gk, gl, gs⟩ := great_no h1
    have hpr : ∀ v ∈ xs, (printV v).length ≤ 10000000 := fun v hv => print_short (gs v hv) (hw v hv)
    refine go ?_
    refine w_call rfl rfl rfl (c_Build ky r d hd Ak kc xs A c _ g hRk hkc (by omega) hR (by omega) hw hpr) fun r1 G1 _ hr1 => ?_
    obtain ⟨A1, c1, rfl, hc1, hR1⟩ := hr1
    obtain ⟨l1, n1, hbn⟩ : ∃ l n, buildN ky r d xs = (l, n) := ⟨_, _, rfl⟩
    obtain ⟨l2, b2, hbr⟩ : ∃ l b, buildR ky r d xs = (l, b) := ⟨_, _, rfl⟩
    rw [hbn] at hc1 hR1 ⊢
    dsimp only at hc1 hR1 ⊢
    refine go ?_
    refine w_d (by kernel_rfl) ?_
    refine dg ?_
    refine .cons (p_call rfl rfl rfl (c_Letter d hd _)) (dg ?_)
    refine .cons (p_call rfl rfl rfl (c_LetterR d _)) (dg ?_)
    refine w_condF rfl (by simp) ?_
    refine go ?_
    refine w_stp (p_call rfl rfl rfl (c_MayR r d _)) ?_
    refine go ?_
    refine w_cond rfl (fun h2 => ?_) (fun h2 => ?_)
    · have e := no_may (ky := ky) (xs := xs) (show mayB r d = false by simpa using h2)
      rw [hbn] at e
      cases e
      refine go ?_
      exact w_ret hQ rfl
    · have hm : mayB r d = true := by simpa using h2
      refine go ?_
      refine w_call rfl rfl rfl (c_BuildR ky ho r d Ak kc xs A c (may_size hm) _ hRk.up (by omega) hR.up (by omega) hw hpr) fun r2 G2 _ hr2 => ?_
      obtain ⟨A2, c2, rfl, hc2, hR2⟩ := hr2
      rw [hbr] at hc2 hR2 ⊢
      dsimp only at hc2 hR2 ⊢
      obtain ⟨l, hll, ⟨e1, e2⟩ | ⟨e1, e2⟩⟩ := build_both (ky := ky) (xs := xs) hm
      · rw [hbn] at e2
        rw [hbr] at e1
        cases e1
        cases e2
        refine go ?_
        refine w_on rfl rfl rfl ?_
        refine w_stp (p_call rfl rfl rfl (c_Same _ _ A1 A2 c1 c2 _ hR1.up hR2 (by omega) (by omega))) ?_
        refine go ?_
        refine w_ret hQ ?_
        rw [decide_eq_true rfl]; rfl
      · rw [hbn] at e2
        rw [hbr] at e1
        cases e1
        cases e2
        refine go ?_
        exact w_ret hQ rfl
end Go.Proofs.YtngoaapgdfohjaaGreatDoor.T27

set_option linter.unusedVariables false
set_option linter.unusedSimpArgs false
namespace Go.Proofs.YtngoaapgdfohjaaGreatDoor.T27
open Go Go.Proofs.YtngoaapgdfohjaaGreatDoor.X Go.Proofs Go.Proofs.YtngoaapgdfohjaaGreatDoor.T28 Go.Proofs.YtngoaapgdfohjaaGreatDoor.TK
/-! ## The argument of the laws of chapter 27, opened -/
section
variable {H : Type} {enc : TypeId × Value → H} {P : Program} {w : World} {base : Nat} {spare : Nat → Bool} {held : Bool}
theorem open_oct {t : TypeId} (ht : leaves P 9 t = some [.int .u8]) {n : Nat} {cs : List Value} {x : DataW H × List MemPlace} (h : DataW.trod enc P w base spare held n t cs = some x) : ∃ a : Int, (0 ≤ a ∧ a < 256) ∧ (Knd.int .u8).R (hp w) a cs := by
  obtain ⟨v0, r0, rfl, ⟨d, rfl, h0⟩, rfl⟩ := leafs_of _ _ _ ht _ _ _ h
  have := bounds_u8 h0
  exact ⟨d, by omega, rfl⟩
theorem open_callo {t te : TypeId} (he : leaves P 9 te = some [.int .u8]) (hse : P.cellsOf te = 1) (ht : leaves P 9 t = some [.int .i64, .int .i64, .int .i64, .sl te]) {n : Nat} {cs : List Value} {x : DataW H × List MemPlace} (h : DataW.trod enc P w base spare held n t cs = some x) :
    ∃ (r : Rul) (d : Int) (ky : List Int) (A : Option Addr) (c : Nat), cs = callC r d ky A c ∧ ky.length ≤ c ∧ ky.length ≤ 9223372036854775807 ∧ I64 d ∧ Rd (Knd.int .u8) (hp w) A ky ∧ Oc ky := by
  obtain ⟨v0, r0, rfl, ⟨a0, rfl, h0⟩, v1, r1, rfl, ⟨a1, rfl, h1⟩, v2, r2, rfl, ⟨a2, rfl, h2⟩, v3, r3, rfl, h3, rfl⟩ := leafs_of _ _ _ ht _ _ _ h
  obtain ⟨A1, xs1, c1, rfl, f1, f2, f3, f4⟩ := h3.list (K := Knd.int .u8) (fun n cs x h => open_oct he h) hse
  exact ⟨⟨a0, a1⟩, a2, xs1, A1, c1, rfl, f1, by omega, i64_of h2, f4, f3⟩
end
end Go.Proofs.YtngoaapgdfohjaaGreatDoor.T27
