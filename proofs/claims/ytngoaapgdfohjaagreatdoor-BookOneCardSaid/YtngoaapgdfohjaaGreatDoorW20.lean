/- Own text. -/
import Derived.Test.YtngoaapgdfohjaaGreatDoorV2
set_option linter.unusedVariables false
set_option linter.unusedSimpArgs false
set_option maxRecDepth 100000
set_option maxHeartbeats 4000000
namespace Go.Proofs.YtngoaapgdfohjaaGreatDoor.T27
open Go Go.Proofs.YtngoaapgdfohjaaGreatDoor.X Go.Proofs Go.Proofs.YtngoaapgdfohjaaGreatDoor.T28 Go.Proofs.YtngoaapgdfohjaaGreatDoor.TS Go.Proofs.YtngoaapgdfohjaaGreatDoor.TK
/-! ## The law: what is parsed is right, and has just this text -/
section
variable {P : Program} {N : Nat} {D : List Deferred} {w0 : World} {G0 : Heap} {K0 : List Nat} {ops : Array Oper} {G : Heap} {L : List (Nat × Value)} {M : List Chunk} {d : Nat} {ty : TypeId} {pos : String} {af : Array Edge} {x y : Operand}
theorem p_eqF {a b c e : Int} {t t' : Nat} [q : EqG P t [.int .i64, .int .i64]] (hN : Nat.blt d N = true) (hx : ev L x = some (.agg #[.int .i64 a, .int .i64 b])) (hy : ev L y = some (.agg #[.int .i64 c, .int .i64 e])) (hbe : b = e) : Stp P N D w0 G0 K0 ops G L M ⟨some d, .binOp .eql t x y t', ty, pos, af, none⟩ d (.bool (decide (a = c))) :=
  Stp.pure fun Q rest a' w G2 hl2 E S kk => o_eqG E hN hx hy q.h rfl (by subst hbe; simp [eqVs, eqV]) kk
end
theorem small_lines {t : Bs} (h : t.length ≤ 1500) (n : Nat) : (linesS (t.take n)).1.length ≤ 1600 ∧ ∀ x ∈ (linesS (t.take n)).1, x.length ≤ 1600 := by
  have h1 := linesS_len (t.take n)
  have h2 : (t.take n).length ≤ 1500 := by rw [List.length_take]; omega
  refine ⟨by omega, fun x hx => ?_⟩
  have := lines_mem hx
  omega
section
attribute [local irreducible] parseB bookB printB BK0
theorem law_BookOne (t : Bs) (key : List Int) (ho : Oc key) (A : Option Addr) (c : Nat) (ht : t.length ≤ 9223372036854775807) (hc : key.length ≤ c) (hc2 : key.length ≤ 9223372036854775807) (G : Heap) (g : Gl G) (hR : Rd (Knd.int .u8) G A key) : FnP Tryz.prog 9 [str t, .slice A key.length c] G (.bool true) := by
  refine fnP_in Tryz.func9 rfl Tryz.ntmps9 rfl fun w0 Q0 hQ => ?_
  refine go ?_
  refine w_stp (p_call rfl rfl rfl (c_wakes29 _ g)) ?_
  refine go ?_
  refine go ?_
  refine w_or (y := decide (200 < (key.length : Int))) 16 12 rfl (fun h => ?_) (fun h => ?_) ?_
  · refine go ?_; exact w_at
  · refine go ?_; exact w_at
  refine go ?_
  refine w_cond rfl (fun h => ?_) (fun h => ?_)
  · refine go ?_
    exact w_ret hQ rfl
  have hb : t.length ≤ 1500 ∧ key.length ≤ 200 := by
    simp only [Bool.or_eq_false_iff, decide_eq_false_iff_not] at h
    omega
  refine go ?_
  refine w_call rfl rfl rfl (f_Parse t key ho A c (by omega) (small_lines hb.1 _) _ g hR hc (by omega)) fun v G1 _ hr => ?_
  obtain ⟨a, rfl, hRB, hSm⟩ := hr
  have hbad := parse_bad (key := key) (t := t)
  have hone := parse_one (key := key) ho (t := t)
  generalize (parseB key t).2 = cd at hbad hone ⊢
  generalize (parseB key t).1 = b at hbad hone hRB hSm ⊢
  refine go ?_; intro B5
  refine go ?_; intro B6
  refine go ?_
  refine w_cd rfl (fun hcd => ?_) (fun hcd => ?_)
  · obtain ⟨h10, rfl⟩ := hbad hcd
    refine go ?_
    refine w_stp (p_build (cs := #[.int .i64 10, .int .i64 0]) rfl rfl (by kernel_rfl)) ?_
    refine w_stp (p_eqF (a := cd) (b := 0) (c := 10) (e := 0) rfl rfl rfl rfl) ?_
    refine go ?_
    refine w_or (y := decide (cd = 11)) 33 29 rfl (fun h => ?_) (fun h => ?_) ?_
    · refine go ?_; exact w_at
    · refine go ?_
      refine w_on rfl rfl h ?_
      refine w_stp (p_build (cs := #[.int .i64 11, .int .i64 0]) rfl rfl (by kernel_rfl)) ?_
      refine w_on rfl rfl h ?_
      refine w_stp (p_eqF (a := cd) (b := 0) (c := 11) (e := 0) rfl rfl rfl rfl) ?_
      refine go ?_; exact w_at
    refine go ?_
    refine w_and (y := true) 38 34 rfl (fun h => ?_) (fun h => ?_) ?_
    · refine go ?_
      refine w_on rfl rfl h ?_
      refine w_stp (p_build (cs := (bookC BK0 AK0).toArray) rfl rfl (by unfold BK0; kernel_rfl)) ?_
      refine w_stp (p_on rfl rfl h (p_call rfl rfl rfl (c_SameBook BK0 BK0 a AK0 _ hRB.up (rdB0 _)))) ?_
      rw [decide_eq_true (rfl : BK0 = BK0)]
      refine go ?_; exact w_at
    · refine go ?_; exact w_at
    refine go ?_
    refine w_ret hQ ?_
    show Value.bool _ = _
    rcases h10 with h10 | h10 <;> subst h10 <;> rfl
  · obtain ⟨h1, h2⟩ := hone hcd
    refine go ?_
    refine w_stp (p_call rfl rfl rfl (c_BRight b a _ g.up hRB)) ?_
    refine go ?_
    refine w_and (y := printB key b == t) 47 41 rfl (fun h => ?_) (fun h => ?_) ?_
    · refine go ?_
      refine w_stp (p_on rfl rfl h (p_call rfl rfl rfl (c_BPrint b a key ho A c _ g.up hRB hSm hR.up hc (by omega)))) ?_
      refine go ?_; exact w_at
    · rw [h1] at h; cases h
    refine go ?_
    refine w_ret hQ ?_
    rw [h1, h2, beq_self_eq_true]; rfl
end
end Go.Proofs.YtngoaapgdfohjaaGreatDoor.T27
