/- Own text. -/
import Derived.Test.YtngoaapgdfohjaaGreatDoorW18
set_option linter.unusedVariables false
set_option linter.unusedSimpArgs false
set_option maxRecDepth 100000
set_option maxHeartbeats 4000000
namespace Go.Proofs.YtngoaapgdfohjaaGreatDoor.T27
open Go Go.Proofs.YtngoaapgdfohjaaGreatDoor.X Go.Proofs Go.Proofs.YtngoaapgdfohjaaGreatDoor.T28 Go.Proofs.YtngoaapgdfohjaaGreatDoor.TS Go.Proofs.YtngoaapgdfohjaaGreatDoor.TK
/-! ## The same books -/
theorem c_Same (xa xb : List Ent) (Aa Ab : Option Addr) (ca cb : Nat) (G : Heap) (hRa : Rd kEnt G Aa xa) (hRb : Rd kEnt G Ab xb) (hla : xa.length ≤ 1000000) (hlb : xb.length ≤ 1000000) :
    FnP Tryz.prog 17 [.slice Aa xa.length ca, .slice Ab xb.length cb] G (.bool (decide (xa = xb))) := by
  refine fnP_in Tryz.func17 rfl Tryz.ntmps17 rfl fun w0 Q0 hQ => ?_
  refine go ?_
  refine w_cond rfl (fun h0 => ?_) (fun h0 => ?_)
  · refine go ?_
    refine w_ret hQ ?_
    rw [decide_eq_false (fun e => by subst e; simp at h0)]; rfl
  · have hle : xa.length = xb.length := by simp at h0; omega
    refine go ?_
    refine w_loop (fun i : Nat => [(5, .int .i64 (i : Int))]) (fun i => []) (fun i _ => i ≤ xa.length ∧ ∀ j, j < i → xa.getD j E0e = xb.getD j E0e) (fun i => xa.length - i) 0 ⟨by omega, fun j hj => by omega⟩ ?_
    rintro i G1 _ ⟨hi, hs⟩
    refine go ?_
    refine w_cd rfl (fun h3 => ?_) (fun h3 => ?_)
    · have hi' : i < xa.length := by omega
      have hi2 : i < xb.length := by omega
      have hE := hRa.ent hi'
      have hE2 := hRb.ent hi2
      refine go ?_
      refine w_d (by kernel_rfl) ?_
      refine dg ?_
      refine w_cond rfl (fun h4 => ?_) (fun h4 => ?_)
      · refine go ?_
        refine w_ret hQ ?_
        rw [decide_eq_false (fun e => by subst e; simp at h4)]; rfl
      · have h4' : xa.getD i E0e = xb.getD i E0e := by simpa using h4
        refine go ?_
        refine w_again (i + 1) ⟨by omega, fun j hj => ?_⟩ (by omega)
        rcases Nat.lt_or_ge j i with h | h
        · exact hs j h
        · obtain rfl : j = i := by omega
          exact h4'
    · have hx : xa = xb := by
        refine List.ext_getElem hle fun j h1 h2 => ?_
        have := hs j (by omega)
        rw [List.getD_eq_getElem?_getD, List.getD_eq_getElem?_getD, List.getElem?_eq_getElem h1, List.getElem?_eq_getElem h2] at this
        exact this
      refine go ?_
      refine w_ret hQ ?_
      rw [decide_eq_true hx]; rfl
theorem eqVs_pol (a c : Pol) : eqVs (polCells a) (polCells c) = decide (a = c) := by
  rw [Bool.eq_iff_iff]
  obtain ⟨⟨a0, a1⟩, ⟨a2, a3⟩, ⟨a4, a5⟩, ⟨a6, a7⟩, ⟨a8, a9⟩, at', an, al, af⟩ := a
  obtain ⟨⟨c0, c1⟩, ⟨c2, c3⟩, ⟨c4, c5⟩, ⟨c6, c7⟩, ⟨c8, c9⟩, ct, cn, cl, cf⟩ := c
  simp [eqVs, eqV, polCells]
  constructor
  · rintro ⟨h0, h1, h2, h3, h4, h5, h6, h7, h8, h9, h10, h11, h12, h13⟩
    exact ⟨⟨h0, h1⟩, ⟨h2, h3⟩, ⟨h4, h5⟩, ⟨h6, h7⟩, ⟨h8, h9⟩, h10, h11, h12, h13⟩
  · rintro ⟨⟨h0, h1⟩, ⟨h2, h3⟩, ⟨h4, h5⟩, ⟨h6, h7⟩, ⟨h8, h9⟩, h10, h11, h12, h13⟩
    exact ⟨h0, h1, h2, h3, h4, h5, h6, h7, h8, h9, h10, h11, h12, h13⟩
theorem eqVs_mom (a c : Mom) : eqVs (momCells a) (momCells c) = decide (a = c) := by
  rw [Bool.eq_iff_iff]
  obtain ⟨a0, a1⟩ := a
  obtain ⟨c0, c1⟩ := c
  simp [eqVs, eqV]
theorem eqVs_rem (a c : Rem) : eqVs (remCells a) (remCells c) = decide (a = c) := by
  obtain ⟨a0, a1⟩ := a
  obtain ⟨c0, c1⟩ := c
  simp only [eqVs, eqV, Rem.mk.injEq, Bool.and_true]
  rw [Bool.decide_and]
  congr 1
  exact beq_dec _ _
section
variable {P : Program} {N : Nat} {D : List Deferred} {w0 : World} {G0 : Heap} {K0 : List Nat} {ops : Array Oper} {G : Heap} {L : List (Nat × Value)} {M : List Chunk} {d : Nat} {ty : TypeId} {pos : String} {af : Array Edge} {x y : Operand}
theorem p_neP {a c : Pol} {t t' : Nat} [q : EqG P t [.int .i64, .int .i64, .int .i64, .int .i64, .int .i64, .int .i64, .int .i64, .int .i64, .int .i64, .int .i64, .int .i64, .int .i64, .bool, .bool]] (hN : Nat.blt d N = true) (hx : ev L x = some (vP a)) (hy : ev L y = some (vP c)) : Stp P N D w0 G0 K0 ops G L M ⟨some d, .binOp .neq t x y t', ty, pos, af, none⟩ d (.bool (!decide (a = c))) :=
  Stp.pure fun Q rest a' w G2 hl2 E S k => o_neG E hN hx hy q.h rfl (eqVs_pol _ _) k
theorem p_neMo {a c : Mom} {t t' : Nat} [q : EqG P t [.int .i64, .int .i64]] (hN : Nat.blt d N = true) (hx : ev L x = some (.agg (momCells a).toArray)) (hy : ev L y = some (.agg (momCells c).toArray)) : Stp P N D w0 G0 K0 ops G L M ⟨some d, .binOp .neq t x y t', ty, pos, af, none⟩ d (.bool (!decide (a = c))) :=
  Stp.pure fun Q rest a' w G2 hl2 E S k => o_neG E hN hx hy q.h rfl (eqVs_mom _ _) k
theorem p_neRe {a c : Rem} {t t' : Nat} [q : EqG P t [.int .i64, .str]] (hN : Nat.blt d N = true) (hx : ev L x = some (.agg (remCells a).toArray)) (hy : ev L y = some (.agg (remCells c).toArray)) : Stp P N D w0 G0 K0 ops G L M ⟨some d, .binOp .neq t x y t', ty, pos, af, none⟩ d (.bool (!decide (a = c))) :=
  Stp.pure fun Q rest a' w G2 hl2 E S k => o_neG E hN hx hy q.h rfl (eqVs_rem _ _) k
end
theorem ext_getD {α : Type} {xs ys : List α} (d : α) (hl : xs.length = ys.length) (h : ∀ j, j < xs.length → xs.getD j d = ys.getD j d) : xs = ys := by
  refine List.ext_getElem hl fun j h1 h2 => ?_
  have := h j h1
  rwa [List.getD_eq_getElem?_getD, List.getD_eq_getElem?_getD, List.getElem?_eq_getElem h1, List.getElem?_eq_getElem h2] at this
theorem c_SameBook (b1 b2 : Book) (a1 a2 : Bk) (G : Heap) (h1 : RdB G b1 a1) (h2 : RdB G b2 a2) : FnP Tryz.prog 32 [vB b1 a1, vB b2 a2] G (.bool (decide (b1 = b2))) := by
  refine fnP_in Tryz.func32 rfl Tryz.ntmps32 rfl fun w0 Q0 hQ => ?_
  have hRe1 := h1.e
  have hRe2 := h2.e
  have hRm1 := h1.m
  have hRm2 := h2.m
  have hRr1 := h1.r
  have hRr2 := h2.r
  have hel1 := h1.el
  have hel2 := h2.el
  have hml1 := h1.ml
  have hml2 := h2.ml
  have hrl1 := h1.rl
  have hrl2 := h2.rl
  refine go ?_; intro B2
  refine go ?_; intro B3
  refine go ?_
  refine w_stp (p_neP (a := b1.pol) (c := b2.pol) rfl rfl rfl) ?_
  refine go ?_
  refine w_or (y := !decide (b1.es = b2.es)) 19 12 rfl (fun h => ?_) (fun h => ?_) ?_
  · refine go ?_; exact w_at
  · refine go ?_
    refine w_stp (p_on rfl rfl h (p_call rfl rfl rfl (c_Same b1.es b2.es a1.Ae a2.Ae a1.ce a2.ce _ hRe1 hRe2 (by omega) (by omega)))) ?_
    refine go ?_; exact w_at
  refine go ?_
  refine w_or (y := !decide ((b1.ms.length : Int) = (b2.ms.length : Int))) 28 20 rfl (fun h => ?_) (fun h => ?_) ?_
  · refine go ?_; exact w_at
  · refine go ?_; exact w_at
  refine go ?_
  refine w_or (y := !decide ((b1.rs.length : Int) = (b2.rs.length : Int))) 37 29 rfl (fun h => ?_) (fun h => ?_) ?_
  · refine go ?_; exact w_at
  · refine go ?_; exact w_at
  refine go ?_
  refine w_cond rfl (fun h => ?_) (fun h => ?_)
  · refine go ?_
    refine w_ret hQ ?_
    rw [decide_eq_false (fun e => by subst e; simp at h)]; rfl
  have hh : ((b1.pol = b2.pol ∧ b1.es = b2.es) ∧ b1.ms.length = b2.ms.length) ∧ b1.rs.length = b2.rs.length := by
    simp only [Bool.or_eq_false_iff, Bool.not_eq_false', decide_eq_true_eq] at h
    exact ⟨⟨⟨h.1.1.1, h.1.1.2⟩, by omega⟩, by omega⟩
  obtain ⟨⟨⟨hp, he⟩, hm⟩, hr⟩ := hh
  refine go ?_
  refine w_loop (fun i : Nat => [(5, .int .i64 (i : Int))]) (fun _ => [[(B3, Arr 54 (bookC b2 a2))], [(B2, Arr 54 (bookC b1 a1))]]) (fun i _ => i ≤ b1.ms.length ∧ ∀ j, j < i → b1.ms.getD j MOM0 = b2.ms.getD j MOM0) (fun i => b1.ms.length - i) 0 ⟨by omega, fun j hj => absurd hj (Nat.not_lt_zero _)⟩ ?_
  rintro i G1 _ ⟨hi, hs⟩
  refine go ?_
  refine w_cd rfl (fun h3 => ?_) (fun h3 => ?_)
  · have hi1 : i < b1.ms.length := by omega
    have hi2 : i < b2.ms.length := by omega
    have hE := rdMom hRm1 hi1
    have hE2 := rdMom hRm2 hi2
    refine go ?_
    refine w_d (by kernel_rfl) ?_
    refine dg ?_
    refine .cons (p_neMo (a := b1.ms.getD i MOM0) (c := b2.ms.getD i MOM0) rfl rfl rfl) (dg ?_)
    refine w_cond rfl (fun h4 => ?_) (fun h4 => ?_)
    · refine go ?_
      refine w_ret hQ ?_
      rw [decide_eq_false (fun e => by subst e; simp at h4)]; rfl
    · refine go ?_
      refine w_again (i + 1) ⟨by omega, fun j hj => ?_⟩ (by omega)
      rcases Nat.lt_or_ge j i with h5 | h5
      · exact hs j h5
      · obtain rfl : j = i := by omega
        simpa using h4
  · obtain rfl : i = b1.ms.length := by omega
    have hms := ext_getD MOM0 hm hs
    refine go ?_
    refine w_loop (fun i : Nat => [(6, .int .i64 (i : Int))]) (fun _ => [[(B3, Arr 54 (bookC b2 a2))], [(B2, Arr 54 (bookC b1 a1))]]) (fun i _ => i ≤ b1.rs.length ∧ ∀ j, j < i → b1.rs.getD j REM0 = b2.rs.getD j REM0) (fun i => b1.rs.length - i) 0 ⟨by omega, fun j hj => absurd hj (Nat.not_lt_zero _)⟩ ?_
    rintro i G2 _ ⟨hi, hs⟩
    refine go ?_
    refine w_cd rfl (fun h3 => ?_) (fun h3 => ?_)
    · have hi1 : i < b1.rs.length := by omega
      have hi2 : i < b2.rs.length := by omega
      have hE := rdRem hRr1 hi1
      have hE2 := rdRem hRr2 hi2
      refine go ?_
      refine w_d (by kernel_rfl) ?_
      refine dg ?_
      refine .cons (p_neRe (a := b1.rs.getD i REM0) (c := b2.rs.getD i REM0) rfl rfl rfl) (dg ?_)
      refine w_cond rfl (fun h4 => ?_) (fun h4 => ?_)
      · refine go ?_
        refine w_ret hQ ?_
        rw [decide_eq_false (fun e => by subst e; simp at h4)]; rfl
      · refine go ?_
        refine w_again (i + 1) ⟨by omega, fun j hj => ?_⟩ (by omega)
        rcases Nat.lt_or_ge j i with h5 | h5
        · exact hs j h5
        · obtain rfl : j = i := by omega
          simpa using h4
    · obtain rfl : i = b1.rs.length := by omega
      have hrs := ext_getD REM0 hr hs
      have hb : b1 = b2 := by
        obtain ⟨p1, e1, m1, r1⟩ := b1
        obtain ⟨p2, e2, m2, r2⟩ := b2
        cases hp; cases he; cases hms; cases hrs; rfl
      refine go ?_
      refine w_ret hQ ?_
      rw [decide_eq_true hb]; rfl
end Go.Proofs.YtngoaapgdfohjaaGreatDoor.T27
