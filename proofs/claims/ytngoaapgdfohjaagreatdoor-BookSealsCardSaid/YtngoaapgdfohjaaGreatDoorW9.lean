/- Own text. -/
import Derived.Test.YtngoaapgdfohjaaGreatDoorW6
set_option linter.unusedVariables false
set_option linter.unusedSimpArgs false
set_option maxRecDepth 100000
set_option maxHeartbeats 4000000
namespace Go.Proofs.YtngoaapgdfohjaaGreatDoor.T27
open Go Go.Proofs.YtngoaapgdfohjaaGreatDoor.X Go.Proofs Go.Proofs.YtngoaapgdfohjaaGreatDoor.T28 Go.Proofs.YtngoaapgdfohjaaGreatDoor.TS Go.Proofs.YtngoaapgdfohjaaGreatDoor.TK
/-! ## The functions that take in what a line of a policy says -/
abbrev pcB (B : Nat) (p : Pol) : Chunk := [(B, Cells 50 (pcE p))]
/-- It does what the k-th kind does with a policy and the words behind the first. -/
def DoK (G : Heap) (v : Value) (k : Nat) : Prop := ∃ (f : Nat) (cs : List Value), v = .func (.func f) #[] cs.toArray ∧ goFn Tryz.prog f = true ∧ ∀ (G' : Heap), Heap.le G G' → ∀ (P : Pol) (l : List Bs) (A : Option Addr) (c B : Nat), l.length ≤ c → l.length ≤ 4294967280 → (∀ x ∈ l, x.length ≤ 4294967280) → Rd Knd.s G' A l →
  FnM Tryz.prog f ([.pointer (some ⟨B, 0, none⟩), .slice A l.length c] ++ cs) G' [pcB B P] (fun v _ Ms => v = .bool (doS k P l).2 ∧ Ms = [pcB B (doS k P l).1])
theorem DoK.up {G G' : Heap} [h : LeT G G'] {v : Value} {k : Nat} (d : DoK G v k) : DoK G' v k := by
  obtain ⟨f, cs, h1, h2, h3⟩ := d
  exact ⟨f, cs, h1, h2, fun G2 hl => h3 G2 (h.le.trans hl)⟩
theorem doK4 (G : Heap) : DoK G (.func (.func 173) #[] #[]) 7 := by
  refine ⟨_, [], rfl, by kernel_rfl, fun G' hle P l A c B hc hl hx hR => ?_⟩
  refine fnM_in Tryz.func173 rfl Tryz.ntmps173 rfl fun w0 K0 Q0 hQ => ?_
  refine go ?_
  exact w_retM hQ (.cons .here .nil) ⟨rfl, rfl⟩
theorem doK5 (G : Heap) : DoK G (.func (.func 174) #[] #[]) 8 := by
  refine ⟨_, [], rfl, by kernel_rfl, fun G' hle P l A c B hc hl hx hR => ?_⟩
  refine fnM_in Tryz.func174 rfl Tryz.ntmps174 rfl fun w0 K0 Q0 hQ => ?_
  refine go ?_
  exact w_retM hQ (.cons .here .nil) ⟨rfl, rfl⟩
theorem doK2 (b1 : Nat) (G : Heap) (g : Gl G) (hC : CellsAt G b1 0 [.func (.func 169) #[] #[]]) : DoK G (.func (.func 171) #[] #[.pointer (some ⟨b1, 0, none⟩)]) 5 := by
  refine ⟨_, [.pointer (some ⟨b1, 0, none⟩)], rfl, by kernel_rfl, fun G' hle P l A c B hc hl hx hR => ?_⟩
  have g' : Gl G' := @Gl.up G G' ⟨hle⟩ g
  have hC' := hC.le hle
  show FnM _ _ [.pointer (some ⟨B, 0, none⟩), .slice A l.length c, .pointer (some ⟨b1, 0, none⟩)] _ _ _
  refine fnM_in Tryz.func171 rfl Tryz.ntmps171 rfl fun w0 K0 Q0 hQ => ?_
  refine go ?_
  refine w_stp (p_call rfl rfl rfl (c_one l A c 3 _ g' hR)) ?_
  refine go ?_
  exact w_retM hQ (.cons .here .nil) ⟨rfl, rfl⟩
theorem doK3 (b1 : Nat) (G : Heap) (g : Gl G) (hC : CellsAt G b1 0 [.func (.func 169) #[] #[]]) : DoK G (.func (.func 172) #[] #[.pointer (some ⟨b1, 0, none⟩)]) 6 := by
  refine ⟨_, [.pointer (some ⟨b1, 0, none⟩)], rfl, by kernel_rfl, fun G' hle P l A c B hc hl hx hR => ?_⟩
  have g' : Gl G' := @Gl.up G G' ⟨hle⟩ g
  have hC' := hC.le hle
  show FnM _ _ [.pointer (some ⟨B, 0, none⟩), .slice A l.length c, .pointer (some ⟨b1, 0, none⟩)] _ _ _
  refine fnM_in Tryz.func172 rfl Tryz.ntmps172 rfl fun w0 K0 Q0 hQ => ?_
  refine go ?_
  refine w_stp (p_call rfl rfl rfl (c_one l A c 4 _ g' hR)) ?_
  refine go ?_
  exact w_retM hQ (.cons .here .nil) ⟨rfl, rfl⟩
theorem cnt_at {l : List Bs} {i : Nat} (h : i < l.length) : l.getD i [] ∈ l := by
  rw [List.getD_eq_getElem?_getD, List.getElem?_eq_getElem h]; exact List.getElem_mem h
theorem ruleV_a {d : Int} {l : List Bs} (h : (w0S l).1 = 2 ∧ l.length = 2) : ruleV d l = (⟨(w0S l).1, okv (countS (l.getD 1 []) 16)⟩, ((w0S l).2 && decide (erv (countS (l.getD 1 []) 16) = 0)) && ruledB d ⟨(w0S l).1, okv (countS (l.getD 1 []) 16)⟩) := by unfold ruleV; rw [if_pos h]
theorem ruleV_b {d : Int} {l : List Bs} (h : ¬ ((w0S l).1 = 2 ∧ l.length = 2)) : ruleV d l = (⟨(w0S l).1, 0⟩, ((w0S l).2 && decide (l.length = 1)) && ruledB d ⟨(w0S l).1, 0⟩) := by unfold ruleV; rw [if_neg h]
attribute [local irreducible] wayS countS okv erv ruledB
theorem doR (d b1 : Nat) (hd : d < 5) (G : Heap) (g : Gl G) (hC : CellsAt G b1 0 [.int .i64 (d : Int)]) : DoK G (.func (.func 208) #[] #[.pointer (some ⟨b1, 0, none⟩)]) d := by
  refine ⟨_, [.pointer (some ⟨b1, 0, none⟩)], rfl, by kernel_rfl, fun G' hle P l A c B hc hl hx hR => ?_⟩
  have g' : Gl G' := @Gl.up G G' ⟨hle⟩ g
  have hC' := hC.le hle
  have hdo : doS d P l = ruleS (d : Int) P l := by unfold doS; rw [if_neg (by omega), if_neg (by omega), if_neg (by omega), if_neg (by omega)]
  rw [hdo]
  show FnM _ _ [.pointer (some ⟨B, 0, none⟩), .slice A l.length c, .pointer (some ⟨b1, 0, none⟩)] _ _ _
  refine fnM_in Tryz.func208 rfl Tryz.ntmps208 rfl fun w0 K0 Q0 hQ => ?_
  refine go ?_
  refine w_cd rfl (fun h => ?_) (fun h => ?_)
  · refine go ?_
    refine w_retM hQ (.cons .here .nil) ?_
    unfold ruleS
    rw [if_pos (by omega)]
    exact ⟨rfl, rfl⟩
  have h0 : 0 < l.length := by omega
  have hne : l ≠ [] := by intro e; rw [e] at h0; exact absurd h0 (by decide)
  refine go ?_
  refine w_stp (p_call rfl rfl rfl (c_way (l.getD 0 []) _ g')) ?_
  refine go ?_
  refine w_stp (p_build (cs := #[.int .i64 (wayS (l.getD 0 [])).1, .int .i64 0]) rfl rfl (by kernel_rfl)) ?_
  refine go ?_; intro B8
  refine go ?_
  refine w_and (y := decide ((l.length : Int) = 2)) 29 25 rfl (fun h => ?_) (fun h => ?_) ?_
  · refine go ?_; exact w_at
  · refine go ?_; exact w_at
  refine go ?_
  have hw := w0_rng (l.getD 0 [])
  have hc5 : d = 0 ∨ d = 1 ∨ d = 2 ∨ d = 3 ∨ d = 4 := by omega
  refine w_cond rfl (fun h2 => ?_) (fun h2 => ?_)
  · have h2' : (w0S l).1 = 2 ∧ l.length = 2 := by
      simp only [Bool.and_eq_true, decide_eq_true_eq] at h2
      exact ⟨h2.1, by omega⟩
    have h1l : 1 < l.length := by omega
    refine go ?_
    refine w_stp (p_call rfl rfl rfl (c_CountN (l.getD 1 []) 16 (by decide) (by have := hx _ (cnt_at h1l); omega) _)) ?_
    refine go ?_
    refine w_and (y := decide (erv (countS (l.getD 1 []) 16) = 0)) 41 38 rfl (fun h => ?_) (fun h => ?_) ?_
    · refine go ?_; exact w_at
    · refine go ?_; exact w_at
    refine go ?_
    refine w_det 5 (fun f => [[(B8, Cells 23 [(0, .int .i64 (wayS (l.getD 0 [])).1), (1, .int .i64 (bif f 4 then okv (countS (l.getD 1 []) 16) else 0))])], pcB B P]) (M := [[(B8, Cells 23 [(0, .int .i64 (wayS (l.getD 0 [])).1), (1, .int .i64 0)])], pcB B P]) (M' := [[(B8, Cells 23 [(0, .int .i64 (wayS (l.getD 0 [])).1), (1, .int .i64 (okv (countS (l.getD 1 []) 16)))])], pcB B P]) rfl (fun f hf => by simp only [hf 4 (by decide) (by decide), cond_true]) (by kernel_rfl) ?_
    refine deg ?_
    refine .cons (fun f => rfl) rfl (fun f => p_slHi (k := 1) rfl rfl rfl rfl (by omega)) (deg ?_)
    refine .eff rfl (fun f h1 h2 => by
      have h4 : f 4 = false := h1
      dsimp only
      rw [h4]
      exact (e_st rfl rfl rfl (.here .here) rfl (.there (by decide) .here)).to rfl) (.nil ?_)
    intro G4 _
    refine go ?_
    rcases hc5 with rfl | rfl | rfl | rfl | rfl
    all_goals
      refine w_dt 6 (by kernel_rfl) ?_
      refine dg ?_
      refine go ?_
      refine w_and (y := decide ((1 : Int) = 1)) 57 53 rfl (fun h => ?_) (fun h => ?_) ?_
      · refine go ?_; exact w_at
      · refine go ?_; exact w_at
      refine go ?_
      apply w_and 62 58 rfl
      · intro h
        refine go ?_
        refine w_stp (p_on rfl rfl h (p_call rfl rfl rfl (c_ruled _ ⟨(wayS (l.getD 0 [])).1, okv (countS (l.getD 1 []) 16)⟩ _))) ?_
        refine go ?_; exact w_at
      · intro h; refine go ?_; exact w_at
      refine go ?_
      refine w_retM hQ (.cons (.there .here) .nil) ?_
      rw [ruleS_eq hne, ruleV_a h2']
      exact ⟨by simp [packed, w0S], rfl⟩
  · have h2' : ¬ ((w0S l).1 = 2 ∧ l.length = 2) := by
      rintro ⟨e1, e2⟩
      have e1' : (wayS (l.getD 0 [])).1 = 2 := e1
      rw [e1', e2] at h2
      cases h2
    refine go ?_
    rcases hc5 with rfl | rfl | rfl | rfl | rfl
    all_goals
      refine w_dt 6 (by kernel_rfl) ?_
      refine dg ?_
      refine go ?_
      refine w_and (y := decide ((l.length : Int) = 1)) 57 53 rfl (fun h => ?_) (fun h => ?_) ?_
      · refine go ?_; exact w_at
      · refine go ?_; exact w_at
      refine go ?_
      apply w_and 62 58 rfl
      · intro h
        refine go ?_
        refine w_stp (p_on rfl rfl h (p_call rfl rfl rfl (c_ruled _ ⟨(wayS (l.getD 0 [])).1, 0⟩ _))) ?_
        refine go ?_; exact w_at
      · intro h; refine go ?_; exact w_at
      refine go ?_
      refine w_retM hQ (.cons (.there .here) .nil) ?_
      rw [ruleS_eq hne, ruleV_b h2']
      refine ⟨?_, rfl⟩
      have e : decide ((l.length : Int) = 1) = decide (l.length = 1) := decide_eq_decide.2 (by omega)
      simp [packed, w0S, e]
end Go.Proofs.YtngoaapgdfohjaaGreatDoor.T27
