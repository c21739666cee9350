/- Own text. -/
import Derived.Test.YtngoaapgdfohjaaGreatDoorT16
import Derived.Test.YtngoaapgdfohjaaGreatDoorY16
import Derived.Test.YtngoaapgdfohjaaGreatDoorP25
set_option linter.unusedVariables false
set_option linter.unusedSimpArgs false
set_option maxRecDepth 100000
set_option maxHeartbeats 4000000
namespace Go.Proofs.YtngoaapgdfohjaaGreatDoor.T27
open Go Go.Proofs.YtngoaapgdfohjaaGreatDoor.X Go.Proofs Go.Proofs.YtngoaapgdfohjaaGreatDoor.T28 Go.Proofs.YtngoaapgdfohjaaGreatDoor.TS Go.Proofs.YtngoaapgdfohjaaGreatDoor.TK
/-! ## Books that are right, walked -/
/-- Where a book's lists lie. -/
structure Bk where
  Ae : Option Addr
  ce : Nat
  Am : Option Addr
  cm : Nat
  Ar : Option Addr
  cr : Nat
abbrev bookC (b : Book) (a : Bk) : List Value := [.int .i64 b.pol.r0.way, .int .i64 b.pol.r0.size, .int .i64 b.pol.r1.way, .int .i64 b.pol.r1.size, .int .i64 b.pol.r2.way, .int .i64 b.pol.r2.size, .int .i64 b.pol.r3.way, .int .i64 b.pol.r3.size, .int .i64 b.pol.r4.way, .int .i64 b.pol.r4.size, .int .i64 b.pol.time, .int .i64 b.pol.note, .bool b.pol.loose, .bool b.pol.force, .slice a.Ae b.es.length a.ce, .slice a.Am b.ms.length a.cm, .slice a.Ar b.rs.length a.cr]
abbrev vB (b : Book) (a : Bk) : Value := .agg (bookC b a).toArray
/-- A book's lists, read. -/
structure RdB (G : Heap) (b : Book) (a : Bk) : Prop where
  e : Rd kEnt G a.Ae b.es
  m : Rd kMom G a.Am b.ms
  r : Rd kRem G a.Ar b.rs
  ec : b.es.length ≤ a.ce
  mc : b.ms.length ≤ a.cm
  rc : b.rs.length ≤ a.cr
  el : b.es.length ≤ 1000000
  ml : b.ms.length ≤ 1000000
  rl : b.rs.length ≤ 1000000
  ew : ∀ x ∈ b.es, I64 x.dom ∧ x.name.Wf ∧ x.real.Wf
  mw : ∀ x ∈ b.ms, I64 x.rank ∧ I64 x.time
  rw' : ∀ x ∈ b.rs, I64 x.event ∧ x.note.length ≤ 1000000
theorem RdB.up {A B : Heap} [h : LeT A B] {b : Book} {a : Bk} (r : RdB A b a) : RdB B b a := ⟨r.e.up, r.m.up, r.r.up, r.ec, r.mc, r.rc, r.el, r.ml, r.rl, r.ew, r.mw, r.rw'⟩
theorem c_Entered (b : Book) (a : Bk) (G : Heap) (g : Gl G) (h : RdB G b a) : FnP Tryz.prog 49 [vB b a] G (.bool (enteredB b)) := by
  refine fnP_in Tryz.func49 rfl Tryz.ntmps49 rfl fun w0 Q0 hQ => ?_
  have hel := h.el
  have hRe := h.e
  refine go ?_; intro B1
  refine go ?_; intro B10
  refine go ?_; intro B11
  refine go ?_
  refine w_blkAs (q := MapF Tryz.prog 135 kvD vvI (posM (kN b) 0)) (.there (.here .here)) rfl ?_
  refine w_blkAs (q := MapF Tryz.prog 135 kvD vvI (posM (kR b) 0)) (.here .here) rfl ?_
  refine w_loop (fun i : Nat => [(5, .int .i64 (lastD b i)), (15, .int .i64 (i : Int))]) (fun i => [[(B11, MapF Tryz.prog 135 kvD vvI (posM (kR b) i))], [(B10, MapF Tryz.prog 135 kvD vvI (posM (kN b) i))], [(B1, Arr 54 (bookC b a))]]) (fun i _ => i ≤ b.es.length ∧ ∀ j, j < i → entOk b j = true) (fun i => b.es.length - i) 0 ⟨by omega, fun j hj => by omega⟩ ?_
  rintro i G1 _ ⟨hi, hall⟩
  refine go ?_
  refine w_cd rfl (fun h3 => ?_) (fun h3 => ?_)
  · have hi' : i < b.es.length := by omega
    have hE := h.e.ent hi'
    have hee : b.es.getD i E0e ∈ b.es := entm (b := b) hi'
    obtain ⟨hkd, hkn, hkr⟩ := h.ew _ hee
    have hln := last_nn hall
    refine go ?_; intro B7
    refine go ?_
    refine w_or (y := decide (4 < (b.es.getD i E0e).dom)) 28 24 rfl (fun h => ?_) (fun h => ?_) ?_
    · refine go ?_; exact w_at
    · refine go ?_; exact w_at
    refine go ?_
    refine w_or (y := decide (wayP b.pol (b.es.getD i E0e).dom = 0)) 38 29 rfl (fun h => ?_) (fun h => ?_) ?_
    · refine go ?_; exact w_at
    · have hb := h
      simp only [Bool.or_eq_false_iff, decide_eq_false_iff_not] at hb
      have hc : (b.es.getD i E0e).dom = 0 ∨ (b.es.getD i E0e).dom = 1 ∨ (b.es.getD i E0e).dom = 2 ∨ (b.es.getD i E0e).dom = 3 ∨ (b.es.getD i E0e).dom = 4 := by omega
      rcases hc with hk | hk | hk | hk | hk
      · refine go ?_
        refine w_as 35 (.pointer (some ⟨B1, 0, none⟩)) rfl (by rw [hk]; rfl) ?_
        refine go ?_
        refine w_as 38 (.bool (decide (wayP b.pol (b.es.getD i E0e).dom = 0))) rfl (by rw [hk]; rfl) ?_
        exact w_at
      · refine go ?_
        refine w_as 35 (.pointer (some ⟨B1, 2, none⟩)) rfl (by rw [hk]; rfl) ?_
        refine go ?_
        refine w_as 38 (.bool (decide (wayP b.pol (b.es.getD i E0e).dom = 0))) rfl (by rw [hk]; rfl) ?_
        exact w_at
      · refine go ?_
        refine w_as 35 (.pointer (some ⟨B1, 4, none⟩)) rfl (by rw [hk]; rfl) ?_
        refine go ?_
        refine w_as 38 (.bool (decide (wayP b.pol (b.es.getD i E0e).dom = 0))) rfl (by rw [hk]; rfl) ?_
        exact w_at
      · refine go ?_
        refine w_as 35 (.pointer (some ⟨B1, 6, none⟩)) rfl (by rw [hk]; rfl) ?_
        refine go ?_
        refine w_as 38 (.bool (decide (wayP b.pol (b.es.getD i E0e).dom = 0))) rfl (by rw [hk]; rfl) ?_
        exact w_at
      · refine go ?_
        refine w_as 35 (.pointer (some ⟨B1, 8, none⟩)) rfl (by rw [hk]; rfl) ?_
        refine go ?_
        refine w_as 38 (.bool (decide (wayP b.pol (b.es.getD i E0e).dom = 0))) rfl (by rw [hk]; rfl) ?_
        exact w_at
    refine go ?_
    refine w_or (y := !nameB (b.es.getD i E0e).name) 44 39 rfl (fun h => ?_) (fun h => ?_) ?_
    · refine go ?_; exact w_at
    · refine go ?_
      refine w_stp (p_on rfl rfl h (p_call rfl rfl rfl (c_BName (b.es.getD i E0e).name hkn _ g.up))) ?_
      refine go ?_; exact w_at
    refine go ?_
    refine w_or (y := !nameB (b.es.getD i E0e).real) 50 45 rfl (fun h => ?_) (fun h => ?_) ?_
    · refine go ?_; exact w_at
    · refine go ?_
      refine w_stp (p_on rfl rfl h (p_call rfl rfl rfl (c_BName (b.es.getD i E0e).real hkr _ g.up))) ?_
      refine go ?_; exact w_at
    refine go ?_
    refine w_cond rfl (fun h4 => ?_) (fun h4 => ?_)
    · refine go ?_
      refine w_ret hQ ?_
      rw [ent_bad hi' (odd_bad hall h4)]; rfl
    · refine go ?_
      refine w_df 14 [⟨10, 8, 12, Arr 135 [.int .i64 0, .int .i64 0, .int .i64 0, str []], Arr 135 [.int .i64 (b.es.getD i E0e).dom, .int .i64 (b.es.getD i E0e).name.k, .int .i64 (b.es.getD i E0e).name.n, str (b.es.getD i E0e).name.s]⟩, ⟨11, 9, 13, Arr 135 [.int .i64 0, .int .i64 0, .int .i64 0, str []], Arr 135 [.int .i64 (b.es.getD i E0e).dom, .int .i64 (b.es.getD i E0e).real.k, .int .i64 (b.es.getD i E0e).real.n, str (b.es.getD i E0e).real.s]⟩] (by kernel_rfl) (by kernel_rfl) ?_
      refine dgf ?_
      refine .cons rfl (fun R => p_build (cs := #[.int .i64 (b.es.getD i E0e).dom, .int .i64 (b.es.getD i E0e).name.k, .int .i64 (b.es.getD i E0e).name.n, str (b.es.getD i E0e).name.s]) rfl rfl (by kernel_rfl)) (dgf ?_)
      refine .cons rfl (fun R => p_build (cs := #[.int .i64 (b.es.getD i E0e).dom, .int .i64 (b.es.getD i E0e).real.k, .int .i64 (b.es.getD i E0e).real.n, str (b.es.getD i E0e).real.s]) rfl rfl (by kernel_rfl)) (dgf ?_)
      refine .fill (.head _) rfl (fun _ => rfl) (by kernel_rfl) ⟨rfl, rfl⟩ ?_
      refine .fill (.tail _ (.head _)) rfl (fun _ => rfl) (by kernel_rfl) ⟨rfl, rfl⟩ ?_
      refine .nil ?_
      intro G2 _ B8 B9
      have hp1 := posM_get (kN b) ⟨(b.es.getD i E0e).dom, (b.es.getD i E0e).name⟩ i
      have hp2 := posM_get (kR b) ⟨(b.es.getD i E0e).dom, (b.es.getD i E0e).real⟩ i
      refine go ?_
      refine w_d (by kernel_rfl) ?_
      refine dg ?_
      refine .cons (p_lookD (c := ⟨(b.es.getD i E0e).dom, (b.es.getD i E0e).name⟩) rfl rfl rfl (.there (.there (.there (.there (.here .here))))) hkd hkn) (dg ?_)
      refine .cons (p_lookD (c := ⟨(b.es.getD i E0e).dom, (b.es.getD i E0e).real⟩) rfl rfl rfl (.there (.there (.there (.here .here)))) hkd hkr) (dg ?_)
      refine go ?_
      refine w_cd rfl (fun h5 => ?_) (fun h5 => ?_)
      · refine go ?_
        refine w_ret hQ ?_
        rw [ent_bad hi' (met_bad h5)]; rfl
      · refine go ?_
        refine w_de (fun f => [[(B9, Arr 135 [.int .i64 (b.es.getD i E0e).dom, .int .i64 (b.es.getD i E0e).real.k, .int .i64 (b.es.getD i E0e).real.n, str (b.es.getD i E0e).real.s])], [(B8, Arr 135 [.int .i64 (b.es.getD i E0e).dom, .int .i64 (b.es.getD i E0e).name.k, .int .i64 (b.es.getD i E0e).name.n, str (b.es.getD i E0e).name.s])], [(B7, Cells 70 [(0, .int .i64 (b.es.getD i E0e).dom), (1, .int .i64 (b.es.getD i E0e).name.k), (2, .int .i64 (b.es.getD i E0e).name.n), (3, str (b.es.getD i E0e).name.s), (4, .int .i64 (b.es.getD i E0e).real.k), (5, .int .i64 (b.es.getD i E0e).real.n), (6, str (b.es.getD i E0e).real.s)])], [(B11, MapF Tryz.prog 135 kvD vvI (bif f 9 then posM (kR b) (i + 1) else posM (kR b) i))], [(B10, MapF Tryz.prog 135 kvD vvI (bif f 8 then posM (kN b) (i + 1) else posM (kN b) i))], [(B1, Arr 54 (bookC b a))]]) (M := [[(B9, Arr 135 [.int .i64 (b.es.getD i E0e).dom, .int .i64 (b.es.getD i E0e).real.k, .int .i64 (b.es.getD i E0e).real.n, str (b.es.getD i E0e).real.s])], [(B8, Arr 135 [.int .i64 (b.es.getD i E0e).dom, .int .i64 (b.es.getD i E0e).name.k, .int .i64 (b.es.getD i E0e).name.n, str (b.es.getD i E0e).name.s])], [(B7, Cells 70 [(0, .int .i64 (b.es.getD i E0e).dom), (1, .int .i64 (b.es.getD i E0e).name.k), (2, .int .i64 (b.es.getD i E0e).name.n), (3, str (b.es.getD i E0e).name.s), (4, .int .i64 (b.es.getD i E0e).real.k), (5, .int .i64 (b.es.getD i E0e).real.n), (6, str (b.es.getD i E0e).real.s)])], [(B11, MapF Tryz.prog 135 kvD vvI (posM (kR b) i))], [(B10, MapF Tryz.prog 135 kvD vvI (posM (kN b) i))], [(B1, Arr 54 (bookC b a))]]) (M' := [[(B9, Arr 135 [.int .i64 (b.es.getD i E0e).dom, .int .i64 (b.es.getD i E0e).real.k, .int .i64 (b.es.getD i E0e).real.n, str (b.es.getD i E0e).real.s])], [(B8, Arr 135 [.int .i64 (b.es.getD i E0e).dom, .int .i64 (b.es.getD i E0e).name.k, .int .i64 (b.es.getD i E0e).name.n, str (b.es.getD i E0e).name.s])], [(B7, Cells 70 [(0, .int .i64 (b.es.getD i E0e).dom), (1, .int .i64 (b.es.getD i E0e).name.k), (2, .int .i64 (b.es.getD i E0e).name.n), (3, str (b.es.getD i E0e).name.s), (4, .int .i64 (b.es.getD i E0e).real.k), (5, .int .i64 (b.es.getD i E0e).real.n), (6, str (b.es.getD i E0e).real.s)])], [(B11, MapF Tryz.prog 135 kvD vvI (posM (kR b) (i + 1)))], [(B10, MapF Tryz.prog 135 kvD vvI (posM (kN b) (i + 1)))], [(B1, Arr 54 (bookC b a))]]) rfl (fun f hf => by simp only [hf 8 (by decide), hf 9 (by decide), cond_true]) (by kernel_rfl) ?_
        refine deg ?_
        refine .eff rfl (fun f h1 h2 => by
          have h8 : f 8 = false := h1
          dsimp only
          rw [h8]
          exact (e_updD (c := ⟨(b.es.getD i E0e).dom, (b.es.getD i E0e).name⟩) (u := (i : Int) + 1) rfl rfl rfl (f' := posM (kN b) (i + 1)) rfl (.there (.there (.there (.there (.here .here))))) hkd hkn).to rfl) (deg ?_)
        refine .eff rfl (fun f h1 h2 => by
          have h9 : f 9 = false := h1
          dsimp only
          rw [h9]
          exact (e_updD (c := ⟨(b.es.getD i E0e).dom, (b.es.getD i E0e).real⟩) (u := (i : Int) + 1) rfl rfl rfl (f' := posM (kR b) (i + 1)) rfl (.there (.there (.there (.here .here)))) hkd hkr).to rfl) (.nil ?_)
        intro G4 _
        refine go ?_
        refine w_again (i + 1) ⟨by omega, fun j hj => ?_⟩ (by omega)
        rcases Nat.lt_or_ge j i with h | h
        · exact hall j h
        · obtain rfl : j = i := by omega
          exact even_ok hall h4 h5
  · have hie : i = b.es.length := by omega
    subst hie
    refine go ?_
    refine w_ret hQ ?_
    have he : enteredB b = true := rall_yes hall
    rw [he]; rfl
end Go.Proofs.YtngoaapgdfohjaaGreatDoor.T27

set_option linter.unusedVariables false
set_option linter.unusedSimpArgs false
set_option maxRecDepth 100000
set_option maxHeartbeats 4000000
namespace Go.Proofs.YtngoaapgdfohjaaGreatDoor.T27
open Go Go.Proofs.YtngoaapgdfohjaaGreatDoor.X Go.Proofs Go.Proofs.YtngoaapgdfohjaaGreatDoor.T28 Go.Proofs.YtngoaapgdfohjaaGreatDoor.TS Go.Proofs.YtngoaapgdfohjaaGreatDoor.TK
/-! ## book.Right -/
theorem rdMom {G : Heap} {A : Option Addr} {xs : List Mom} (h : Rd kMom G A xs) {j : Nat} (hj : j < xs.length) : CellsAt G (aB A) (aO A + j * 2) (momCells (xs.getD j MOM0)) := h.cells _ hj
theorem rdRem {G : Heap} {A : Option Addr} {xs : List Rem} (h : Rd kRem G A xs) {j : Nat} (hj : j < xs.length) : CellsAt G (aB A) (aO A + j * 2) (remCells (xs.getD j REM0)) := h.cells _ hj
attribute [local irreducible] enteredB rightB momOk remOk
theorem c_BRight (b : Book) (a : Bk) (G : Heap) (g : Gl G) (h : RdB G b a) : FnP Tryz.prog 28 [vB b a] G (.bool (bookB b)) := by
  refine fnP_in Tryz.func28 rfl Tryz.ntmps28 rfl fun w0 Q0 hQ => ?_
  have hml := h.ml
  have hrl := h.rl
  have hRm := h.m
  have hRr := h.r
  refine go ?_; intro B1
  refine go ?_
  refine w_stp (p_call rfl rfl rfl (c_RightP b.pol _)) ?_
  refine go ?_
  refine w_or (y := !enteredB b) 15 11 rfl (fun h1 => ?_) (fun h1 => ?_) ?_
  · refine go ?_; exact w_at
  · refine go ?_
    refine w_stp (p_on rfl rfl h1 (p_call rfl rfl rfl (c_Entered b a _ g.up h.up))) ?_
    refine go ?_; exact w_at
  refine go ?_
  refine w_or (y := decide (0 < (b.ms.length : Int)) && !decide (b.pol.time = 3)) 27 16 rfl (fun h1 => ?_) (fun h1 => ?_) ?_
  · refine go ?_; exact w_at
  · refine go ?_
    refine w_and (y := !decide (b.pol.time = 3)) 26 21 rfl (fun h2 => ?_) (fun h2 => ?_) ?_
    · refine go ?_; exact w_at
    · refine go ?_; exact w_at
    refine go ?_; exact w_at
  refine go ?_
  refine w_or (y := decide (0 < (b.rs.length : Int)) && !decide (b.pol.note = 4)) 39 28 rfl (fun h1 => ?_) (fun h1 => ?_) ?_
  · refine go ?_; exact w_at
  · refine go ?_
    refine w_and (y := !decide (b.pol.note = 4)) 38 33 rfl (fun h2 => ?_) (fun h2 => ?_) ?_
    · refine go ?_; exact w_at
    · refine go ?_; exact w_at
    refine go ?_; exact w_at
  refine go ?_
  refine w_cond rfl (fun h1 => ?_) (fun h1 => ?_)
  · refine go ?_
    refine w_ret hQ ?_
    rw [book_bad1 h1]; rfl
  · obtain ⟨g1, g2, g3, g4⟩ := book_ok1 h1
    refine go ?_
    refine w_loop (fun i : Nat => [(43, .int .i64 (i : Int))]) (fun _ => [[(B1, Arr 54 (bookC b a))]]) (fun i _ => i ≤ b.ms.length ∧ ∀ j, j < i → momOk b j = true) (fun i => b.ms.length - i) 0 ⟨by omega, fun j hj => by omega⟩ ?_
    rintro i G1 _ ⟨hi, hall⟩
    refine go ?_
    refine w_cd rfl (fun h3 => ?_) (fun h3 => ?_)
    · have hi' : i < b.ms.length := by omega
      have hE := rdMom hRm hi'
      refine go ?_; intro B4
      refine go ?_
      have hst : ∀ j, momOk b i = true → j < i + 1 → momOk b j = true := fun j hi9 hj => by
        rcases Nat.lt_or_ge j i with h9 | h9
        · exact hall j h9
        · obtain rfl : j = i := by omega
          exact hi9
      have hE2 : 0 < (i : Int) → CellsAt G (aB a.Am) (aO a.Am + ((i : Int) - 1).toNat * 2) (momCells (b.ms.getD ((i : Int) - 1).toNat MOM0)) := fun h9 => rdMom hRm (by omega)
      have hmo : momOk b i = !((!decide ((b.ms.getD i MOM0).rank = (i : Int) + 1) || decide ((b.ms.getD i MOM0).time < 0)) || (decide (0 < (i : Int)) && decide ((b.ms.getD i MOM0).time ≤ (b.ms.getD ((i : Int) - 1).toNat MOM0).time))) := by unfold momOk; rfl
      cases hC : decide (0 < (i : Int)) with
      | true =>
        rw [hC, Bool.true_and, Bool.or_assoc] at hmo
        have hi0 : 0 < (i : Int) := of_decide_eq_true hC
        have hE3 := hE2 hi0
        refine w_dB (y := !decide ((b.ms.getD i MOM0).rank = (i : Int) + 1) || (decide ((b.ms.getD i MOM0).time < 0) || decide ((b.ms.getD i MOM0).time ≤ (b.ms.getD ((i : Int) - 1).toNat MOM0).time))) 73 (by kernel_rfl) ?_ ?_
        · refine dg ?_
          refine dr_or 53 rfl (fun h5 => ?_) (fun h5 => ?_)
          · refine dg ?_; exact rfl
          · refine dg ?_
            refine dr_or 58 rfl (fun h6 => ?_) (fun h6 => ?_)
            · refine dg ?_; exact rfl
            · refine dg ?_; exact rfl
        refine go ?_
        refine w_cond rfl (fun h4 => ?_) (fun h4 => ?_)
        · refine go ?_
          refine w_ret hQ ?_
          rw [book_m (moms_bad hi' (by rw [hmo, h4]; rfl))]; rfl
        · refine go ?_
          exact w_again (i + 1) ⟨by omega, fun j => hst j (by rw [hmo, h4]; rfl)⟩ (by omega)
      | false =>
        rw [hC, Bool.false_and, Bool.or_false] at hmo
        refine w_dB (y := !decide ((b.ms.getD i MOM0).rank = (i : Int) + 1) || decide ((b.ms.getD i MOM0).time < 0)) 73 (by kernel_rfl) ?_ ?_
        · refine dg ?_
          refine dr_or 53 rfl (fun h5 => ?_) (fun h5 => ?_)
          · refine dg ?_; exact rfl
          · refine dg ?_
            cases h6 : decide ((b.ms.getD i MOM0).time < 0) with
            | true => refine dg ?_; exact rfl
            | false => refine dg ?_; exact rfl
        refine go ?_
        refine w_cond rfl (fun h4 => ?_) (fun h4 => ?_)
        · refine go ?_
          refine w_ret hQ ?_
          rw [book_m (moms_bad hi' (by rw [hmo, h4]; rfl))]; rfl
        · refine go ?_
          exact w_again (i + 1) ⟨by omega, fun j => hst j (by rw [hmo, h4]; rfl)⟩ (by omega)
    · have hm : momsB b = true := moms_yes g3 fun j hj => hall j (by omega)
      refine go ?_
      refine w_loop (fun i : Nat => [(78, .int .i64 (i : Int))]) (fun _ => [[(B1, Arr 54 (bookC b a))]]) (fun i _ => i ≤ b.rs.length ∧ ∀ j, j < i → remOk b j = true) (fun i => b.rs.length - i) 0 ⟨by omega, fun j hj => by omega⟩ ?_
      rintro i G1 _ ⟨hi, hall⟩
      refine go ?_
      refine w_cd rfl (fun h3 => ?_) (fun h3 => ?_)
      · have hi' : i < b.rs.length := by omega
        have hE := rdRem hRr hi'
        refine go ?_; intro B6
        refine go ?_
        have hst : ∀ j, remOk b i = true → j < i + 1 → remOk b j = true := fun j hi9 hj => by
          rcases Nat.lt_or_ge j i with h9 | h9
          · exact hall j h9
          · obtain rfl : j = i := by omega
            exact hi9
        have hE2 : 0 < (i : Int) → CellsAt G (aB a.Ar) (aO a.Ar + ((i : Int) - 1).toNat * 2) (remCells (b.rs.getD ((i : Int) - 1).toNat REM0)) := fun h9 => rdRem hRr (by omega)
        have hro := rem_prog (b := b) (i := i)
        cases hC : decide (0 < (i : Int)) with
        | true =>
          rw [hC, Bool.true_and, Bool.or_assoc, Bool.or_assoc, Bool.or_assoc] at hro
          have hi0 : 0 < (i : Int) := of_decide_eq_true hC
          have hE3 := hE2 hi0
          refine w_dB (y := decide ((b.rs.getD i REM0).event < 1) || (decide (4096 < (b.rs.getD i REM0).event) || (decide ((b.rs.getD i REM0).event ≤ (b.rs.getD ((i : Int) - 1).toNat REM0).event) || (decide (100 < ((b.rs.getD i REM0).note.length : Int)) || decide (0 ≤ Lib.indexByte (b.rs.getD i REM0).note 10))))) 117 (by kernel_rfl) ?_ ?_
          · refine dg ?_
            refine dr_or 86 rfl (fun h9 => ?_) (fun h9 => ?_)
            · refine dg ?_; exact rfl
            · refine dg ?_
              refine dr_or 91 rfl (fun h9 => ?_) (fun h9 => ?_)
              · refine dg ?_; exact rfl
              · refine dg ?_
                refine dr_or 107 rfl (fun h9 => ?_) (fun h9 => ?_)
                · refine dg ?_; exact rfl
                · refine dg ?_
                  refine dr_or 113 rfl (fun h9 => ?_) (fun h9 => ?_)
                  · refine dg ?_; exact rfl
                  · refine dg ?_
                    refine .cons (p_on rfl rfl h9 (p_call rfl rfl rfl (c_Contains (b.rs.getD i REM0).note 10 _))) (dg ?_)
                    exact rfl
          refine go ?_
          refine w_cond rfl (fun h4 => ?_) (fun h4 => ?_)
          · refine go ?_
            refine w_ret hQ ?_
            rw [book_n (rems_bad hi' (by rw [← Bool.not_not (remOk b i), ← hro, h4]; rfl))]; rfl
          · refine go ?_
            exact w_again (i + 1) ⟨by omega, fun j => hst j (by rw [← Bool.not_not (remOk b i), ← hro, h4]; rfl)⟩ (by omega)
        | false =>
          rw [hC, Bool.false_and, Bool.or_false, Bool.or_assoc, Bool.or_assoc] at hro
          refine w_dB (y := decide ((b.rs.getD i REM0).event < 1) || (decide (4096 < (b.rs.getD i REM0).event) || (decide (100 < ((b.rs.getD i REM0).note.length : Int)) || decide (0 ≤ Lib.indexByte (b.rs.getD i REM0).note 10)))) 117 (by kernel_rfl) ?_ ?_
          · refine dg ?_
            refine dr_or 86 rfl (fun h9 => ?_) (fun h9 => ?_)
            · refine dg ?_; exact rfl
            · refine dg ?_
              refine dr_or 91 rfl (fun h9 => ?_) (fun h9 => ?_)
              · refine dg ?_; exact rfl
              · refine dg ?_
                refine dr_or 113 rfl (fun h9 => ?_) (fun h9 => ?_)
                · refine dg ?_; exact rfl
                · refine dg ?_
                  refine .cons (p_on rfl rfl h9 (p_call rfl rfl rfl (c_Contains (b.rs.getD i REM0).note 10 _))) (dg ?_)
                  exact rfl
          refine go ?_
          refine w_cond rfl (fun h4 => ?_) (fun h4 => ?_)
          · refine go ?_
            refine w_ret hQ ?_
            rw [book_n (rems_bad hi' (by rw [← Bool.not_not (remOk b i), ← hro, h4]; rfl))]; rfl
          · refine go ?_
            exact w_again (i + 1) ⟨by omega, fun j => hst j (by rw [← Bool.not_not (remOk b i), ← hro, h4]; rfl)⟩ (by omega)
      · have hr : remsB b = true := rems_yes g4 fun j hj => hall j (by omega)
        refine go ?_
        refine w_ret hQ ?_
        rw [book_yes g1 g2 hm hr]; rfl
end Go.Proofs.YtngoaapgdfohjaaGreatDoor.T27

set_option linter.unusedVariables false
set_option linter.unusedSimpArgs false
set_option maxRecDepth 100000
set_option maxHeartbeats 4000000
namespace Go.Proofs.YtngoaapgdfohjaaGreatDoor.T27
open Go Go.Proofs.YtngoaapgdfohjaaGreatDoor.X Go.Proofs Go.Proofs.YtngoaapgdfohjaaGreatDoor.T28 Go.Proofs.YtngoaapgdfohjaaGreatDoor.TS Go.Proofs.YtngoaapgdfohjaaGreatDoor.TK
/-! ## The document's Right -/
attribute [local irreducible] enteredB rightB momOk remOk plainB
theorem c_BRightR (b : Book) (a : Bk) (G : Heap) (h : RdB G b a) : FnP Tryz.prog 29 [vB b a] G (.bool (bookB b)) := by
  refine fnP_in Tryz.func29 rfl Tryz.ntmps29 rfl fun w0 Q0 hQ => ?_
  have hel := h.el
  have hml := h.ml
  have hrl := h.rl
  have hRe := h.e
  have hRm := h.m
  have hRr := h.r
  refine go ?_; intro B1
  refine go ?_
  refine w_stp (p_call rfl rfl rfl (c_Right25 b.pol _)) ?_
  refine go ?_
  refine w_cond rfl (fun h1 => ?_) (fun h1 => ?_)
  · refine go ?_
    refine w_ret hQ ?_
    rw [book_r (by simpa using h1)]; rfl
  have g1 : rightB b.pol = true := by simpa using h1
  refine go ?_
  refine w_loop (fun i : Nat => [(3, .int .i64 (i : Int))]) (fun _ => [[(B1, Arr 54 (bookC b a))]]) (fun i _ => i ≤ b.es.length ∧ ∀ j, j < i → entOk b j = true) (fun i => b.es.length - i) 0 ⟨by omega, fun j hj => by omega⟩ ?_
  rintro i G1 _ ⟨hi, hall⟩
  refine go ?_
  refine w_cd rfl (fun h3 => ?_) (fun h3 => ?_)
  · have hi' : i < b.es.length := by omega
    have hE := hRe.ent hi'
    have hee : b.es.getD i E0e ∈ b.es := entm (b := b) hi'
    obtain ⟨hkd, hkn, hkr⟩ := h.ew _ hee
    refine go ?_; intro B4
    refine go ?_
    refine w_or (y := decide (4 < (b.es.getD i E0e).dom)) 34 30 rfl (fun h => ?_) (fun h => ?_) ?_
    · refine go ?_; exact w_at
    · refine go ?_; exact w_at
    refine go ?_
    refine w_or (y := decide (wayP b.pol (b.es.getD i E0e).dom = 0)) 44 35 rfl (fun h => ?_) (fun h => ?_) ?_
    · refine go ?_; exact w_at
    · have hb := h
      simp only [Bool.or_eq_false_iff, decide_eq_false_iff_not] at hb
      have hc : (b.es.getD i E0e).dom = 0 ∨ (b.es.getD i E0e).dom = 1 ∨ (b.es.getD i E0e).dom = 2 ∨ (b.es.getD i E0e).dom = 3 ∨ (b.es.getD i E0e).dom = 4 := by omega
      rcases hc with hk | hk | hk | hk | hk
      · refine go ?_
        refine w_as 41 (.pointer (some ⟨B1, 0, none⟩)) rfl (by rw [hk]; rfl) ?_
        refine go ?_
        refine w_as 44 (.bool (decide (wayP b.pol (b.es.getD i E0e).dom = 0))) rfl (by rw [hk]; rfl) ?_
        exact w_at
      · refine go ?_
        refine w_as 41 (.pointer (some ⟨B1, 2, none⟩)) rfl (by rw [hk]; rfl) ?_
        refine go ?_
        refine w_as 44 (.bool (decide (wayP b.pol (b.es.getD i E0e).dom = 0))) rfl (by rw [hk]; rfl) ?_
        exact w_at
      · refine go ?_
        refine w_as 41 (.pointer (some ⟨B1, 4, none⟩)) rfl (by rw [hk]; rfl) ?_
        refine go ?_
        refine w_as 44 (.bool (decide (wayP b.pol (b.es.getD i E0e).dom = 0))) rfl (by rw [hk]; rfl) ?_
        exact w_at
      · refine go ?_
        refine w_as 41 (.pointer (some ⟨B1, 6, none⟩)) rfl (by rw [hk]; rfl) ?_
        refine go ?_
        refine w_as 44 (.bool (decide (wayP b.pol (b.es.getD i E0e).dom = 0))) rfl (by rw [hk]; rfl) ?_
        exact w_at
      · refine go ?_
        refine w_as 41 (.pointer (some ⟨B1, 8, none⟩)) rfl (by rw [hk]; rfl) ?_
        refine go ?_
        refine w_as 44 (.bool (decide (wayP b.pol (b.es.getD i E0e).dom = 0))) rfl (by rw [hk]; rfl) ?_
        exact w_at
    refine go ?_
    refine w_or (y := !nameB (b.es.getD i E0e).name) 50 45 rfl (fun h => ?_) (fun h => ?_) ?_
    · refine go ?_; exact w_at
    · refine go ?_
      refine w_stp (p_on rfl rfl h (p_call rfl rfl rfl (c_NameR (b.es.getD i E0e).name hkn _))) ?_
      refine go ?_; exact w_at
    refine go ?_
    refine w_or (y := !nameB (b.es.getD i E0e).real) 56 51 rfl (fun h => ?_) (fun h => ?_) ?_
    · refine go ?_; exact w_at
    · refine go ?_
      refine w_stp (p_on rfl rfl h (p_call rfl rfl rfl (c_NameR (b.es.getD i E0e).real hkr _))) ?_
      refine go ?_; exact w_at
    refine go ?_
    refine w_cond rfl (fun h4 => ?_) (fun h4 => ?_)
    · refine go ?_
      refine w_ret hQ ?_
      rw [book_e (ent_bad hi' (ent_head h4))]; rfl
    · refine go ?_
      refine w_loop (fun k : Nat => [(5, .int .i64 (k : Int))]) (fun _ => [[(B4, Cells 70 [(0, .int .i64 (b.es.getD i E0e).dom), (1, .int .i64 (b.es.getD i E0e).name.k), (2, .int .i64 (b.es.getD i E0e).name.n), (3, str (b.es.getD i E0e).name.s), (4, .int .i64 (b.es.getD i E0e).real.k), (5, .int .i64 (b.es.getD i E0e).real.n), (6, str (b.es.getD i E0e).real.s)])], [(B1, Arr 54 (bookC b a))]]) (fun k _ => k ≤ i ∧ ∀ j, j < k → pairB (ENTd b j) (ENTd b i) = false) (fun k => i - k) 0 ⟨by omega, fun j hj => by omega⟩ ?_
      rintro k G2 _ ⟨hk, hpa⟩
      refine go ?_
      refine w_cd rfl (fun h5 => ?_) (fun h5 => ?_)
      · have hk' : k < i := by omega
        have hE2 := hRe.ent (show k < b.es.length by omega)
        refine go ?_; intro B6
        refine go ?_
        refine w_or (y := decide ((b.es.getD k E0e).dom = (b.es.getD i E0e).dom) && (decide ((b.es.getD k E0e).name = (b.es.getD i E0e).name) || decide ((b.es.getD k E0e).real = (b.es.getD i E0e).real))) 92 72 rfl (fun h => ?_) (fun h => ?_) ?_
        · refine go ?_; exact w_at
        · refine go ?_
          refine w_and (y := decide ((b.es.getD k E0e).name = (b.es.getD i E0e).name) || decide ((b.es.getD k E0e).real = (b.es.getD i E0e).real)) 91 78 rfl (fun h2 => ?_) (fun h2 => ?_) ?_
          · refine go ?_
            refine w_or (y := decide ((b.es.getD k E0e).real = (b.es.getD i E0e).real)) 90 84 rfl (fun h6 => ?_) (fun h6 => ?_) ?_
            · refine go ?_; exact w_at
            · refine go ?_; exact w_at
            refine go ?_; exact w_at
          · refine go ?_; exact w_at
          refine go ?_; exact w_at
        refine go ?_
        refine w_cond rfl (fun h6 => ?_) (fun h6 => ?_)
        · refine go ?_
          refine w_ret hQ ?_
          rw [book_e (ent_bad hi' (ent_pair hk' h6))]; rfl
        · refine go ?_
          refine w_again (k + 1) ⟨by omega, fun j hj => ?_⟩ (by omega)
          rcases Nat.lt_or_ge j k with h9 | h9
          · exact hpa j h9
          · obtain rfl : j = k := by omega
            exact h6
      · have hke : k = i := by omega
        subst hke
        refine go ?_
        refine w_again (k + 1) ⟨by omega, fun j hj => ?_⟩ (by omega)
        rcases Nat.lt_or_ge j k with h9 | h9
        · exact hall j h9
        · obtain rfl : j = k := by omega
          exact ent_yes h4 hpa
  · have g2 : enteredB b = true := by unfold enteredB; exact rall_yes fun j hj => hall j (by omega)
    refine go ?_
    refine w_loop (fun i : Nat => [(7, .int .i64 (i : Int))]) (fun _ => [[(B1, Arr 54 (bookC b a))]]) (fun i _ => i ≤ b.ms.length ∧ (0 < i → b.pol.time = 3) ∧ ∀ j, j < i → momOk b j = true) (fun i => b.ms.length - i) 0 ⟨by omega, fun h => by omega, fun j hj => by omega⟩ ?_
    rintro i G1 _ ⟨hi, hti, hall⟩
    refine go ?_
    refine w_cd rfl (fun h3 => ?_) (fun h3 => ?_)
    · have hi' : i < b.ms.length := by omega
      have hE := rdMom hRm hi'
      refine go ?_; intro B8
      refine go ?_
      have hst : ∀ j, momOk b i = true → j < i + 1 → momOk b j = true := fun j hi9 hj => by
        rcases Nat.lt_or_ge j i with h9 | h9
        · exact hall j h9
        · obtain rfl : j = i := by omega
          exact hi9
      have hE2 : 0 < (i : Int) → CellsAt G (aB a.Am) (aO a.Am + ((i : Int) - 1).toNat * 2) (momCells (b.ms.getD ((i : Int) - 1).toNat MOM0)) := fun h9 => rdMom hRm (by omega)
      cases hC : decide (0 < (i : Int)) with
      | true =>
        have hi0 : 0 < (i : Int) := of_decide_eq_true hC
        have hE3 := hE2 hi0
        refine w_dB (y := !decide (b.pol.time = 3) || (!decide ((b.ms.getD i MOM0).rank = (i : Int) + 1) || (decide ((b.ms.getD i MOM0).time < 0) || decide ((b.ms.getD i MOM0).time ≤ (b.ms.getD ((i : Int) - 1).toNat MOM0).time)))) 136 (by kernel_rfl) ?_ ?_
        · refine dg ?_
          refine dr_or 109 rfl (fun h5 => ?_) (fun h5 => ?_)
          · refine dg ?_; exact rfl
          · refine dg ?_
            refine dr_or 116 rfl (fun h6 => ?_) (fun h6 => ?_)
            · refine dg ?_; exact rfl
            · refine dg ?_
              refine dr_or 121 rfl (fun h7 => ?_) (fun h7 => ?_)
              · refine dg ?_; exact rfl
              · refine dg ?_; exact rfl
        refine go ?_
        have hx : ((((!decide (b.pol.time = 3) || !decide ((b.ms.getD i MOM0).rank = ((i : Nat) : Int) + 1)) || decide ((b.ms.getD i MOM0).time < 0)) || (decide (0 < ((i : Nat) : Int)) && decide ((b.ms.getD i MOM0).time ≤ (b.ms.getD ((i : Int) - 1).toNat MOM0).time)))) = (!decide (b.pol.time = 3) || (!decide ((b.ms.getD i MOM0).rank = (i : Int) + 1) || (decide ((b.ms.getD i MOM0).time < 0) || decide ((b.ms.getD i MOM0).time ≤ (b.ms.getD ((i : Int) - 1).toNat MOM0).time)))) := by rw [hC, Bool.true_and, Bool.or_assoc, Bool.or_assoc]
        refine w_cond rfl (fun h4 => ?_) (fun h4 => ?_)
        · refine go ?_
          refine w_ret hQ ?_
          rw [book_m (mom_fail hi' (hx.trans h4))]; rfl
        · obtain ⟨c1, c2⟩ := mom_pass (hx.trans h4)
          refine go ?_
          exact w_again (i + 1) ⟨by omega, fun _ => c1, fun j => hst j c2⟩ (by omega)
      | false =>
        refine w_dB (y := !decide (b.pol.time = 3) || (!decide ((b.ms.getD i MOM0).rank = (i : Int) + 1) || decide ((b.ms.getD i MOM0).time < 0))) 136 (by kernel_rfl) ?_ ?_
        · refine dg ?_
          refine dr_or 109 rfl (fun h5 => ?_) (fun h5 => ?_)
          · refine dg ?_; exact rfl
          · refine dg ?_
            refine dr_or 116 rfl (fun h6 => ?_) (fun h6 => ?_)
            · refine dg ?_; exact rfl
            · refine dg ?_
              cases h7 : decide ((b.ms.getD i MOM0).time < 0) with
              | true => refine dg ?_; exact rfl
              | false => refine dg ?_; exact rfl
        refine go ?_
        have hx : ((((!decide (b.pol.time = 3) || !decide ((b.ms.getD i MOM0).rank = ((i : Nat) : Int) + 1)) || decide ((b.ms.getD i MOM0).time < 0)) || (decide (0 < ((i : Nat) : Int)) && decide ((b.ms.getD i MOM0).time ≤ (b.ms.getD ((i : Int) - 1).toNat MOM0).time)))) = (!decide (b.pol.time = 3) || (!decide ((b.ms.getD i MOM0).rank = (i : Int) + 1) || decide ((b.ms.getD i MOM0).time < 0))) := by rw [hC, Bool.false_and, Bool.or_false, Bool.or_assoc]
        refine w_cond rfl (fun h4 => ?_) (fun h4 => ?_)
        · refine go ?_
          refine w_ret hQ ?_
          rw [book_m (mom_fail hi' (hx.trans h4))]; rfl
        · obtain ⟨c1, c2⟩ := mom_pass (hx.trans h4)
          refine go ?_
          exact w_again (i + 1) ⟨by omega, fun _ => c1, fun j => hst j c2⟩ (by omega)
    · have g3 : momsB b = true := moms_yes (by
        rcases Nat.eq_zero_or_pos b.ms.length with h9 | h9
        · exact .inl h9
        · exact .inr (hti (by omega))) fun j hj => hall j (by omega)
      refine go ?_
      refine w_loop (fun i : Nat => [(9, .int .i64 (i : Int))]) (fun _ => [[(B1, Arr 54 (bookC b a))]]) (fun i _ => i ≤ b.rs.length ∧ (0 < i → b.pol.note = 4) ∧ ∀ j, j < i → remOk b j = true) (fun i => b.rs.length - i) 0 ⟨by omega, fun h => by omega, fun j hj => by omega⟩ ?_
      rintro i G1 _ ⟨hi, hti, hall⟩
      refine go ?_
      refine w_cd rfl (fun h3 => ?_) (fun h3 => ?_)
      · have hi' : i < b.rs.length := by omega
        have hE := rdRem hRr hi'
        have hnl : (b.rs.getD i REM0).note.length ≤ 9223372036854775807 := by have := (h.rw' _ (remm (b := b) hi')).2; omega
        refine go ?_; intro B10
        refine go ?_
        have hst : ∀ j, remOk b i = true → j < i + 1 → remOk b j = true := fun j hi9 hj => by
          rcases Nat.lt_or_ge j i with h9 | h9
          · exact hall j h9
          · obtain rfl : j = i := by omega
            exact hi9
        have hE2 : 0 < (i : Int) → CellsAt G (aB a.Ar) (aO a.Ar + ((i : Int) - 1).toNat * 2) (remCells (b.rs.getD ((i : Int) - 1).toNat REM0)) := fun h9 => rdRem hRr (by omega)
        cases hC : decide (0 < (i : Int)) with
        | true =>
          have hi0 : 0 < (i : Int) := of_decide_eq_true hC
          have hE3 := hE2 hi0
          refine w_dB (y := !decide (b.pol.note = 4) || (decide ((b.rs.getD i REM0).event < 1) || (decide (4096 < (b.rs.getD i REM0).event) || (decide ((b.rs.getD i REM0).event ≤ (b.rs.getD ((i : Int) - 1).toNat REM0).event) || !plainB (b.rs.getD i REM0).note)))) 184 (by kernel_rfl) ?_ ?_
          · refine dg ?_
            refine dr_or 153 rfl (fun h9 => ?_) (fun h9 => ?_)
            · refine dg ?_; exact rfl
            · refine dg ?_
              refine dr_or 158 rfl (fun h9 => ?_) (fun h9 => ?_)
              · refine dg ?_; exact rfl
              · refine dg ?_
                refine dr_or 163 rfl (fun h9 => ?_) (fun h9 => ?_)
                · refine dg ?_; exact rfl
                · refine dg ?_
                  refine dr_or 179 rfl (fun h9 => ?_) (fun h9 => ?_)
                  · refine dg ?_; exact rfl
                  · refine dg ?_
                    refine .cons (p_on rfl rfl h9 (p_call rfl rfl rfl (c_Plain (b.rs.getD i REM0).note hnl _))) (dg ?_)
                    exact rfl
          refine go ?_
          have hx : ((((!decide (b.pol.note = 4) || decide ((b.rs.getD i REM0).event < 1)) || decide (4096 < (b.rs.getD i REM0).event)) || (decide (0 < ((i : Nat) : Int)) && decide ((b.rs.getD i REM0).event ≤ (b.rs.getD ((i : Int) - 1).toNat REM0).event))) || !plainB (b.rs.getD i REM0).note) = (!decide (b.pol.note = 4) || (decide ((b.rs.getD i REM0).event < 1) || (decide (4096 < (b.rs.getD i REM0).event) || (decide ((b.rs.getD i REM0).event ≤ (b.rs.getD ((i : Int) - 1).toNat REM0).event) || !plainB (b.rs.getD i REM0).note)))) := by rw [hC, Bool.true_and, Bool.or_assoc, Bool.or_assoc, Bool.or_assoc]
          refine w_cond rfl (fun h4 => ?_) (fun h4 => ?_)
          · refine go ?_
            refine w_ret hQ ?_
            rw [book_n (rem_fail hi' (hx.trans h4))]; rfl
          · obtain ⟨c1, c2⟩ := rem_pass (hx.trans h4)
            refine go ?_
            exact w_again (i + 1) ⟨by omega, fun _ => c1, fun j => hst j c2⟩ (by omega)
        | false =>
          refine w_dB (y := !decide (b.pol.note = 4) || (decide ((b.rs.getD i REM0).event < 1) || (decide (4096 < (b.rs.getD i REM0).event) || !plainB (b.rs.getD i REM0).note))) 184 (by kernel_rfl) ?_ ?_
          · refine dg ?_
            refine dr_or 153 rfl (fun h9 => ?_) (fun h9 => ?_)
            · refine dg ?_; exact rfl
            · refine dg ?_
              refine dr_or 158 rfl (fun h9 => ?_) (fun h9 => ?_)
              · refine dg ?_; exact rfl
              · refine dg ?_
                refine dr_or 163 rfl (fun h9 => ?_) (fun h9 => ?_)
                · refine dg ?_; exact rfl
                · refine dg ?_
                  refine .cons (p_on rfl rfl rfl (p_call rfl rfl rfl (c_Plain (b.rs.getD i REM0).note hnl _))) (dg ?_)
                  exact rfl
          refine go ?_
          have hx : ((((!decide (b.pol.note = 4) || decide ((b.rs.getD i REM0).event < 1)) || decide (4096 < (b.rs.getD i REM0).event)) || (decide (0 < ((i : Nat) : Int)) && decide ((b.rs.getD i REM0).event ≤ (b.rs.getD ((i : Int) - 1).toNat REM0).event))) || !plainB (b.rs.getD i REM0).note) = (!decide (b.pol.note = 4) || (decide ((b.rs.getD i REM0).event < 1) || (decide (4096 < (b.rs.getD i REM0).event) || !plainB (b.rs.getD i REM0).note))) := by rw [hC, Bool.false_and, Bool.or_false, Bool.or_assoc, Bool.or_assoc]
          refine w_cond rfl (fun h4 => ?_) (fun h4 => ?_)
          · refine go ?_
            refine w_ret hQ ?_
            rw [book_n (rem_fail hi' (hx.trans h4))]; rfl
          · obtain ⟨c1, c2⟩ := rem_pass (hx.trans h4)
            refine go ?_
            exact w_again (i + 1) ⟨by omega, fun _ => c1, fun j => hst j c2⟩ (by omega)
      · have g4 : remsB b = true := rems_yes (by
          rcases Nat.eq_zero_or_pos b.rs.length with h9 | h9
          · exact .inl h9
          · exact .inr (hti (by omega))) fun j hj => hall j (by omega)
        refine go ?_
        refine w_ret hQ ?_
        rw [book_yes g1 g2 g3 g4]; rfl
end Go.Proofs.YtngoaapgdfohjaaGreatDoor.T27

set_option linter.unusedVariables false
set_option linter.unusedSimpArgs false
set_option maxRecDepth 100000
set_option maxHeartbeats 4000000
namespace Go.Proofs.YtngoaapgdfohjaaGreatDoor.T27
open Go Go.Proofs.YtngoaapgdfohjaaGreatDoor.X Go.Proofs Go.Proofs.YtngoaapgdfohjaaGreatDoor.T28 Go.Proofs.YtngoaapgdfohjaaGreatDoor.TS Go.Proofs.YtngoaapgdfohjaaGreatDoor.TK
/-! ## Seals -/
def sealS (key : List Int) (s : Bs) : Bs := ([115, 101, 97, 108, 32] ++ encR (macR key (byts s))) ++ [10]
theorem encR_mac (key : List Int) (s : Bs) : (encR (macR key (byts s))).length = 64 := by rw [encR_len, macR_len]
theorem seal_len (key : List Int) (s : Bs) : (sealS key s).length = 70 := by unfold sealS; rw [List.length_append, List.length_append, encR_mac]; rfl
attribute [local irreducible] macR encR macS encS
theorem c_SealRB (key : List Int) (ho : Oc key) (A : Option Addr) (c : Nat) (s : Bs) (G : Heap) (hR : Rd (Knd.int .u8) G A key) (hl : key.length ≤ 1000000) (hs : s.length ≤ 10000000) :
    FnP Tryz.prog 35 [str s, .slice A key.length c] G (str (sealS key s)) := by
  refine fnP_in Tryz.func35 rfl Tryz.ntmps35 rfl fun w0 Q0 hQ => ?_
  have hb : ∀ r : Bs, (byts r).length = r.length := fun r => by unfold byts; simp
  have hel := encR_mac key s
  have hm := macR_len key (byts s)
  refine go ?_
  refine w_s2b rfl rfl fun b2 c2 G2 _ hc2 hR2 => ?_
  refine w_as 8 (.slice (some ⟨b2, 0, none⟩) (byts s).length c2) rfl (by rw [hb]) ?_
  refine w_stp (p_call rfl rfl rfl (c_MacR key ho hl A c G2 hR.up _ (byts_oc s) (by rw [hb]; omega) _ c2 hR2)) ?_
  refine go ?_; intro B5
  refine go ?_
  refine w_still B5 .here fun G7 _ hC => ?_
  refine w_as 10 (.slice (some ⟨B5, 0, none⟩) (macR key (byts s)).length 32) rfl (by rw [hm]) ?_
  refine w_stp (p_call rfl rfl rfl (c_EncR _ (macR_oc _ _) _ 32 G7 (Rd.nums hC) (by rw [hm]; omega))) ?_
  refine go ?_
  refine w_stp (p_cat rfl rfl rfl (by simp only [List.length_append, hel]; decide)) ?_
  refine go ?_
  refine w_stp (p_cat rfl rfl rfl (by simp only [List.length_append, hel]; decide)) ?_
  refine go ?_
  exact w_ret hQ rfl
theorem c_SealB (key : List Int) (ho : Oc key) (A : Option Addr) (c : Nat) (s : Bs) (G : Heap) (g : Gl G) (hR : Rd (Knd.int .u8) G A key) (hc : key.length ≤ c) (hl : key.length ≤ 1000000) (hs : s.length ≤ 10000000) :
    FnP Tryz.prog 47 [str s, .slice A key.length c] G (str (sealS key s)) := by
  refine fnP_in Tryz.func47 rfl Tryz.ntmps47 rfl fun w0 Q0 hQ => ?_
  have hb : ∀ r : Bs, (byts r).length = r.length := fun r => by unfold byts; simp
  have hel := encR_mac key s
  have hm := mac_len key [byts s]
  have hme : macS key [byts s] = macR key (byts s) := by
    have := mac_eq key [byts s] ho (by simpa using byts_oc s)
    simpa using this
  refine go ?_
  refine w_s2b rfl rfl fun b2 c2 G2 _ hc2 hR2 => ?_
  refine w_lit (K := KB8) [byts s] rfl rfl rfl (cs := #[.slice (some ⟨b2, 0, none⟩) (byts s).length c2]) (by kernel_rfl) ⟨⟨_, rfl, _, _, rfl, by rw [hb]; exact hc2, hR2⟩, rfl⟩ fun b6 G6 _ hR6 => ?_
  refine w_stp (p_call rfl rfl rfl (c_MacSum key A c G6 hR.up hc hl [byts s] _ 1 hR6 (by simp) (by simp only [lenAll, List.foldl_cons, List.foldl_nil]; rw [hb]; omega) g.ks.up)) ?_
  refine go ?_; intro B5
  refine go ?_
  refine w_still B5 .here fun G7 _ hC => ?_
  refine w_as 11 (.slice (some ⟨B5, 0, none⟩) (macS key [byts s]).length 32) rfl (by rw [hm]) ?_
  refine w_stp (p_call rfl rfl rfl (c_Encode _ (mac_oct _ _) _ 32 G7 (Rd.nums hC) (by rw [hm]; omega))) ?_
  have he : (encS (macS key [byts s])).map (fun n => UInt8.ofNat n.toNat) = encR (macR key (byts s)) := by
    rw [hme]
    exact (enc_eq (macR_oc _ _)).symm
  rw [he]
  refine go ?_
  refine w_stp (p_cat rfl rfl rfl (by simp only [List.length_append, hel]; decide)) ?_
  refine go ?_
  refine w_stp (p_cat rfl rfl rfl (by simp only [List.length_append, hel]; decide)) ?_
  refine go ?_
  exact w_ret hQ rfl
end Go.Proofs.YtngoaapgdfohjaaGreatDoor.T27

set_option linter.unusedVariables false
set_option linter.unusedSimpArgs false
set_option maxRecDepth 100000
set_option maxHeartbeats 4000000
namespace Go.Proofs.YtngoaapgdfohjaaGreatDoor.T27
open Go Go.Proofs.YtngoaapgdfohjaaGreatDoor.X Go.Proofs Go.Proofs.YtngoaapgdfohjaaGreatDoor.T28 Go.Proofs.YtngoaapgdfohjaaGreatDoor.TS Go.Proofs.YtngoaapgdfohjaaGreatDoor.TK
/-! ## The document's text of a policy -/
theorem nameS_len (d : Int) : (nameS d).length ≤ 6 := by
  unfold nameS
  split
  · decide
  split
  · decide
  split
  · decide
  split
  · decide
  · decide
theorem c_name25 (d : Int) (G : Heap) : FnP Tryz.prog 149 [.int .i64 d] G (str (nameS d)) := by
  refine fnP_in Tryz.func149 rfl Tryz.ntmps149 rfl fun w0 Q0 hQ => ?_
  by_cases h0 : d = 0
  · subst h0; refine go ?_; exact w_ret hQ rfl
  by_cases h1 : d = 1
  · subst h1; refine go ?_; exact w_ret hQ rfl
  by_cases h2 : d = 2
  · subst h2; refine go ?_; exact w_ret hQ rfl
  by_cases h3 : d = 3
  · subst h3; refine go ?_; exact w_ret hQ rfl
  · have e0 : decide (d = 0) = false := decide_eq_false h0
    have e1 : decide (d = 1) = false := decide_eq_false h1
    have e2 : decide (d = 2) = false := decide_eq_false h2
    have e3 : decide (d = 3) = false := decide_eq_false h3
    refine go ?_
    refine w_ret hQ ?_
    unfold nameS
    rw [if_neg h0, if_neg h1, if_neg h2, if_neg h3]; rfl
attribute [local irreducible] nameS
theorem c_said25 (d : Int) (r : Rul) (hs : I64 r.size) (G : Heap) : FnP Tryz.prog 113 [.int .i64 d, vR r] G (str (saidS d r)) := by
  refine fnP_in Tryz.func113 rfl Tryz.ntmps113 rfl fun w0 Q0 hQ => ?_
  have hnl := nameS_len d
  have hil := Lib.itoa_length_le r.size hs.1 hs.2
  refine go ?_; intro B3
  refine go ?_
  refine w_cd rfl (fun h0 => ?_) (fun h0 => ?_)
  · refine go ?_
    refine w_stp (p_call rfl rfl rfl (c_name25 d _)) ?_
    refine w_stp (p_cat rfl rfl rfl (by simp; omega)) ?_
    refine go ?_
    refine w_ret hQ ?_
    unfold saidS; rw [if_pos h0]; rfl
  · refine go ?_
    refine w_cd rfl (fun h1 => ?_) (fun h1 => ?_)
    · refine go ?_
      refine w_stp (p_call rfl rfl rfl (c_name25 d _)) ?_
      refine w_stp (p_cat rfl rfl rfl (by simp; omega)) ?_
      refine go ?_
      refine w_ret hQ ?_
      unfold saidS; rw [if_neg h0, if_pos h1]; rfl
    · refine go ?_
      refine w_cd rfl (fun h2 => ?_) (fun h2 => ?_)
      · refine go ?_
        refine w_dt 7 (by kernel_rfl) ?_
        refine dg ?_
        refine .cons (p_call rfl rfl rfl (c_name25 d _)) (dg ?_)
        refine .cons (p_cat rfl rfl rfl (by simp; omega)) (dg ?_)
        refine .cons (p_call rfl rfl rfl (c_Print6 r.size hs _)) (dg ?_)
        refine .cons (p_cat rfl rfl rfl (by simp; omega)) (dg ?_)
        refine go ?_
        refine w_ret hQ ?_
        unfold saidS; rw [if_neg h0, if_neg h1, if_pos h2]; rfl
      · refine go ?_
        refine w_stp (p_call rfl rfl rfl (c_name25 d _)) ?_
        refine w_stp (p_cat rfl rfl rfl (by simp; omega)) ?_
        refine go ?_
        refine w_ret hQ ?_
        unfold saidS; rw [if_neg h0, if_neg h1, if_neg h2]; rfl
end Go.Proofs.YtngoaapgdfohjaaGreatDoor.T27

set_option linter.unusedVariables false
set_option linter.unusedSimpArgs false
set_option maxRecDepth 100000
set_option maxHeartbeats 4000000
namespace Go.Proofs.YtngoaapgdfohjaaGreatDoor.T27
open Go Go.Proofs.YtngoaapgdfohjaaGreatDoor.X Go.Proofs Go.Proofs.YtngoaapgdfohjaaGreatDoor.T28 Go.Proofs.YtngoaapgdfohjaaGreatDoor.TS Go.Proofs.YtngoaapgdfohjaaGreatDoor.TK
/-! ## The document's text of a policy, all of it -/
def accS (p : Pol) (i : Nat) : Bs := ((List.range i).map (sLine p)).flatMap (· ++ [10])
theorem acc_step (p : Pol) (i : Nat) : accS p (i + 1) = (accS p i ++ sLine p i) ++ [10] := by
  unfold accS
  rw [List.range_succ, List.map_append, List.flatMap_append]
  simp
theorem acc_len {p : Pol} (hp : rightB p = true) : ∀ i, i ≤ 5 → (accS p i).length ≤ 41 * i
  | 0, _ => by simp [accS]
  | i + 1, h => by
    have h1 := acc_len hp i (by omega)
    have h2 := (sLine_plain hp (keys_7 p i (by omega))).2.1
    rw [acc_step]
    simp only [List.length_append, List.length_cons, List.length_nil]
    omega
def tailS (p : Pol) : Bs := ((((if p.time = 0 then sTK else sTR) ++ [10]) ++ ((if p.note = 0 then sNK else sND) ++ [10])) ++ (if p.loose = true then sLo ++ [10] else [])) ++ (if p.force = true then sFo ++ [10] else [])
theorem print_eq {p : Pol} (hp : rightB p = true) : printR p = accS p 5 ++ tailS p := by
  unfold printR
  rw [if_pos hp]
  have e : keysP p = List.range 5 ++ ([5, 6] ++ (if p.loose = true then [7] else []) ++ (if p.force = true then [8] else [])) := by
    unfold keysP
    rw [show List.range 5 = [0, 1, 2, 3, 4] from rfl]
    simp
  rw [e, List.map_append, List.flatMap_append]
  congr 1
  unfold tailS
  by_cases h1 : p.loose = true <;> by_cases h2 : p.force = true <;> simp [h1, h2, sLine]
theorem size_i64 {r : Rul} (h : 0 ≤ r.size ∧ r.size ≤ 16) : I64 r.size := by unfold I64; omega
attribute [local irreducible] accS saidS
theorem c_Print25 (p : Pol) (G : Heap) : FnP Tryz.prog 68 [vP p] G (str (printR p)) := by
  refine fnP_in Tryz.func68 rfl Tryz.ntmps68 rfl fun w0 Q0 hQ => ?_
  refine go ?_; intro B1
  refine go ?_
  refine w_stp (p_call rfl rfl rfl (c_Right25 p _)) ?_
  refine go ?_
  refine w_cond rfl (fun h1 => ?_) (fun h1 => ?_)
  · have hp : rightB p = false := by simpa using h1
    refine go ?_
    refine w_ret hQ ?_
    unfold printR
    rw [if_neg (by rw [hp]; simp)]; rfl
  have hp : rightB p = true := by simpa using h1
  have hsz := right_size hp
  refine go ?_
  refine w_as 3 (str (accS p 0)) rfl (by unfold accS; rfl) ?_
  refine w_loop (fun i : Nat => [(3, str (accS p i)), (4, .int .i64 (i : Int))]) (fun _ => [[(B1, Arr 50 (polCells p))]]) (fun i _ => i ≤ 5) (fun i => 5 - i) 0 (by omega) ?_
  intro i G1 _ hi
  have hal := acc_len hp i hi
  refine go ?_
  refine w_cd rfl (fun h3 => ?_) (fun h3 => ?_)
  · have hc : i = 0 ∨ i = 1 ∨ i = 2 ∨ i = 3 ∨ i = 4 := by omega
    have hll := (sLine_plain hp (keys_7 p i (by omega))).2.1
    have hst := acc_step p i
    rcases hc with rfl | rfl | rfl | rfl | rfl
    · have e : sLine p 0 = saidS 0 p.r0 := rfl
      rw [e] at hll hst
      refine go ?_
      refine w_stp (p_call rfl rfl rfl (c_said25 0 p.r0 (size_i64 (by omega)) _)) ?_
      refine go ?_
      refine w_stp (p_cat rfl rfl rfl (by simp only [List.length_append, List.length_cons, List.length_nil]; omega)) ?_
      refine go ?_
      refine w_as 3 (str (accS p (0 + 1))) rfl (by rw [hst]) ?_
      exact w_again (0 + 1) (by omega) (by omega)
    · have e : sLine p 1 = saidS 1 p.r1 := rfl
      rw [e] at hll hst
      refine go ?_
      refine w_stp (p_call rfl rfl rfl (c_said25 1 p.r1 (size_i64 (by omega)) _)) ?_
      refine go ?_
      refine w_stp (p_cat rfl rfl rfl (by simp only [List.length_append, List.length_cons, List.length_nil]; omega)) ?_
      refine go ?_
      refine w_as 3 (str (accS p (1 + 1))) rfl (by rw [hst]) ?_
      exact w_again (1 + 1) (by omega) (by omega)
    · have e : sLine p 2 = saidS 2 p.r2 := rfl
      rw [e] at hll hst
      refine go ?_
      refine w_stp (p_call rfl rfl rfl (c_said25 2 p.r2 (size_i64 (by omega)) _)) ?_
      refine go ?_
      refine w_stp (p_cat rfl rfl rfl (by simp only [List.length_append, List.length_cons, List.length_nil]; omega)) ?_
      refine go ?_
      refine w_as 3 (str (accS p (2 + 1))) rfl (by rw [hst]) ?_
      exact w_again (2 + 1) (by omega) (by omega)
    · have e : sLine p 3 = saidS 3 p.r3 := rfl
      rw [e] at hll hst
      refine go ?_
      refine w_stp (p_call rfl rfl rfl (c_said25 3 p.r3 (size_i64 (by omega)) _)) ?_
      refine go ?_
      refine w_stp (p_cat rfl rfl rfl (by simp only [List.length_append, List.length_cons, List.length_nil]; omega)) ?_
      refine go ?_
      refine w_as 3 (str (accS p (3 + 1))) rfl (by rw [hst]) ?_
      exact w_again (3 + 1) (by omega) (by omega)
    · have e : sLine p 4 = saidS 4 p.r4 := rfl
      rw [e] at hll hst
      refine go ?_
      refine w_stp (p_call rfl rfl rfl (c_said25 4 p.r4 (size_i64 (by omega)) _)) ?_
      refine go ?_
      refine w_stp (p_cat rfl rfl rfl (by simp only [List.length_append, List.length_cons, List.length_nil]; omega)) ?_
      refine go ?_
      refine w_as 3 (str (accS p (4 + 1))) rfl (by rw [hst]) ?_
      exact w_again (4 + 1) (by omega) (by omega)
  · have : i = 5 := by omega
    subst this
    rw [print_eq hp] at hQ
    by_cases ht : p.time = 0 <;> by_cases hn : p.note = 0 <;> cases hl : p.loose <;> cases hf : p.force
    all_goals
      refine go ?_
      first | refine w_condT rfl (decide_eq_true ht) ?_ | refine w_condF rfl (decide_eq_false ht) ?_
      refine go ?_
      refine w_stp (p_cat rfl rfl rfl (by simp only [List.length_append, List.length_cons, List.length_nil]; omega)) ?_
      refine go ?_
      first | refine w_condT rfl (decide_eq_true hn) ?_ | refine w_condF rfl (decide_eq_false hn) ?_
      refine go ?_
      refine w_stp (p_cat rfl rfl rfl (by simp only [List.length_append, List.length_cons, List.length_nil]; omega)) ?_
      refine go ?_
      try (refine w_stp (p_cat rfl rfl rfl (by simp only [List.length_append, List.length_cons, List.length_nil]; omega)) ?_; refine go ?_)
      try (refine w_stp (p_cat rfl rfl rfl (by simp only [List.length_append, List.length_cons, List.length_nil]; omega)) ?_; refine go ?_)
      refine w_ret hQ ?_
      unfold tailS
      simp [ht, hn, hl, hf, sTK, sTR, sNK, sND, sLo, sFo, packed]
end Go.Proofs.YtngoaapgdfohjaaGreatDoor.T27

set_option linter.unusedVariables false
set_option linter.unusedSimpArgs false
set_option maxRecDepth 100000
set_option maxHeartbeats 4000000
namespace Go.Proofs.YtngoaapgdfohjaaGreatDoor.T27
open Go Go.Proofs.YtngoaapgdfohjaaGreatDoor.X Go.Proofs Go.Proofs.YtngoaapgdfohjaaGreatDoor.T28 Go.Proofs.YtngoaapgdfohjaaGreatDoor.TS Go.Proofs.YtngoaapgdfohjaaGreatDoor.TK
/-! ## The document's text of a book -/
def hdS (b : Book) : Bs := [105, 110, 99, 111, 103, 110, 105, 116, 111, 32, 98, 111, 111, 107, 10] ++ printR b.pol
def entL (x : Ent) : Bs := (((((([110, 97, 109, 101, 32] ++ letterS x.dom) ++ [32]) ++ printV x.name) ++ [32]) ++ printV x.real) ++ [10])
def momL (m : Mom) : Bs := (((([116, 105, 109, 101, 32] ++ Lib.itoa m.rank) ++ [32]) ++ Lib.itoa m.time) ++ [10])
def remL (r : Rem) : Bs := (((([110, 111, 116, 101, 32] ++ Lib.itoa r.event) ++ [32, 59]) ++ r.note) ++ [10])
def openS (b : Book) : Bs := ((hdS b ++ b.es.flatMap entL) ++ b.ms.flatMap momL) ++ b.rs.flatMap remL
/-- A book of a size that the laws take. -/
structure Small (b : Book) : Prop where
  e : b.es.length ≤ 1600
  m : b.ms.length ≤ 1600
  r : b.rs.length ≤ 1600
  ew : ∀ x ∈ b.es, x.name.s.length ≤ 1600 ∧ x.real.s.length ≤ 1600
  rw' : ∀ x ∈ b.rs, x.note.length ≤ 1600
theorem flat_len {α : Type} {f : α → Bs} {m : Nat} : ∀ l : List α, (∀ x ∈ l, (f x).length ≤ m) → (l.flatMap f).length ≤ l.length * m
  | [], _ => by simp
  | x :: l, h => by
    have h1 := h x List.mem_cons_self
    have h2 := flat_len l fun y hy => h y (List.mem_cons_of_mem _ hy)
    rw [List.flatMap_cons, List.length_append, List.length_cons, Nat.add_mul]
    omega
theorem print_1600 {x : Val} (h : x.s.length ≤ 1600) (hw : x.Wf) : (printV x).length ≤ 1600 := by
  unfold printV
  split
  · decide
  split
  · decide
  split
  · have := Lib.itoa_length_le x.n hw.n.1 hw.n.2; omega
  split
  · exact h
  split
  · decide
  · decide
theorem ent_len {x : Ent} (h : x.name.s.length ≤ 1600 ∧ x.real.s.length ≤ 1600) (hw : x.name.Wf ∧ x.real.Wf) : (entL x).length ≤ 3210 := by
  have h1 := print_1600 h.1 hw.1
  have h2 := print_1600 h.2 hw.2
  have h3 := letter_len x.dom
  unfold entL
  simp only [List.length_append, List.length_cons, List.length_nil]
  omega
theorem mom_len {m : Mom} (h : I64 m.rank ∧ I64 m.time) : (momL m).length ≤ 60 := by
  have h1 := Lib.itoa_length_le m.rank h.1.1 h.1.2
  have h2 := Lib.itoa_length_le m.time h.2.1 h.2.2
  unfold momL
  simp only [List.length_append, List.length_cons, List.length_nil]
  omega
theorem rem_len {r : Rem} (h : I64 r.event) (hn : r.note.length ≤ 1600) : (remL r).length ≤ 1640 := by
  have h1 := Lib.itoa_length_le r.event h.1 h.2
  unfold remL
  simp only [List.length_append, List.length_cons, List.length_nil]
  omega
theorem hd_len (b : Book) : (hdS b).length ≤ 400 := by
  have := printR_len (p := b.pol)
  unfold hdS
  simp only [List.length_append, List.length_cons, List.length_nil]
  omega
theorem take_flat {α : Type} {f : α → Bs} {l : List α} {i : Nat} {d : α} (h : i < l.length) : (l.take (i + 1)).flatMap f = (l.take i).flatMap f ++ f (l.getD i d) := by
  rw [List.take_add_one, List.getElem?_eq_getElem h, List.flatMap_append, List.getD_eq_getElem?_getD, List.getElem?_eq_getElem h]
  simp
theorem es_len {G : Heap} {b : Book} {a : Bk} (h : RdB G b a) (s : Small b) (i : Nat) : ((b.es.take i).flatMap entL).length ≤ 5136000 := by
  have h1 := flat_len (f := entL) (m := 3210) (b.es.take i) fun x hx => ent_len (s.ew x (List.mem_of_mem_take hx)) (h.ew x (List.mem_of_mem_take hx)).2
  have h2 := s.e
  have h3 : (b.es.take i).length ≤ 1600 := by rw [List.length_take]; omega
  have := Nat.mul_le_mul_right 3210 h3
  omega
theorem ms_len {G : Heap} {b : Book} {a : Bk} (h : RdB G b a) (s : Small b) (i : Nat) : ((b.ms.take i).flatMap momL).length ≤ 96000 := by
  have h1 := flat_len (f := momL) (m := 60) (b.ms.take i) fun x hx => mom_len (h.mw x (List.mem_of_mem_take hx))
  have h2 := s.m
  have h3 : (b.ms.take i).length ≤ 1600 := by rw [List.length_take]; omega
  have := Nat.mul_le_mul_right 60 h3
  omega
theorem rs_len {G : Heap} {b : Book} {a : Bk} (h : RdB G b a) (s : Small b) (i : Nat) : ((b.rs.take i).flatMap remL).length ≤ 2624000 := by
  have h1 := flat_len (f := remL) (m := 1640) (b.rs.take i) fun x hx => rem_len (h.rw' x (List.mem_of_mem_take hx)).1 (s.rw' x (List.mem_of_mem_take hx))
  have h2 := s.r
  have h3 : (b.rs.take i).length ≤ 1600 := by rw [List.length_take]; omega
  have := Nat.mul_le_mul_right 1640 h3
  omega
theorem open_len {G : Heap} {b : Book} {a : Bk} (h : RdB G b a) (s : Small b) : (openS b).length ≤ 8000000 := by
  have h0 := hd_len b
  have h1 := es_len h s b.es.length
  have h2 := ms_len h s b.ms.length
  have h3 := rs_len h s b.rs.length
  rw [List.take_length] at h1 h2 h3
  unfold openS
  simp only [List.length_append]
  omega
end Go.Proofs.YtngoaapgdfohjaaGreatDoor.T27

set_option linter.unusedVariables false
set_option linter.unusedSimpArgs false
set_option maxRecDepth 100000
set_option maxHeartbeats 4000000
namespace Go.Proofs.YtngoaapgdfohjaaGreatDoor.T27
open Go Go.Proofs.YtngoaapgdfohjaaGreatDoor.X Go.Proofs Go.Proofs.YtngoaapgdfohjaaGreatDoor.T28 Go.Proofs.YtngoaapgdfohjaaGreatDoor.TS Go.Proofs.YtngoaapgdfohjaaGreatDoor.TK
/-! ## The document's text of a book, walked -/
attribute [local irreducible] printR letterS printV hdS
theorem hd_eq (b : Book) : hdS b = [105, 110, 99, 111, 103, 110, 105, 116, 111, 32, 98, 111, 111, 107, 10] ++ printR b.pol := by unfold hdS; rfl
theorem c_Open29 (b : Book) (a : Bk) (G : Heap) (h : RdB G b a) (s : Small b) : FnP Tryz.prog 34 [vB b a] G (str (openS b)) := by
  refine fnP_in Tryz.func34 rfl Tryz.ntmps34 rfl fun w0 Q0 hQ => ?_
  have hel := h.el
  have hml := h.ml
  have hrl := h.rl
  have hRe := h.e
  have hRm := h.m
  have hRr := h.r
  have hdl := hd_len b
  have hpl := printR_len (p := b.pol)
  have hE0 := es_len h s b.es.length
  have hM0 := ms_len h s b.ms.length
  have hR0 := rs_len h s b.rs.length
  rw [List.take_length] at hE0 hM0 hR0
  refine go ?_; intro B1
  refine go ?_
  refine w_stp (p_call rfl rfl rfl (c_Print25 b.pol _)) ?_
  refine w_stp (p_cat rfl rfl rfl (by simp only [List.length_cons, List.length_nil]; omega)) ?_
  refine go ?_
  refine w_as 3 (str (hdS b ++ (b.es.take 0).flatMap entL)) rfl (by rw [hd_eq]; simp) ?_
  refine w_loop (fun i : Nat => [(3, str (hdS b ++ (b.es.take i).flatMap entL)), (4, .int .i64 (i : Int))]) (fun _ => [[(B1, Arr 54 (bookC b a))]]) (fun i _ => i ≤ b.es.length) (fun i => b.es.length - i) 0 (by omega) ?_
  intro i G1 _ hi
  have hal := es_len h s i
  refine go ?_
  refine w_cd rfl (fun h3 => ?_) (fun h3 => ?_)
  · have hi' : i < b.es.length := by omega
    have hE := hRe.ent hi'
    have hee : b.es.getD i E0e ∈ b.es := entm (b := b) hi'
    obtain ⟨hkd, hkn, hkr⟩ := h.ew _ hee
    have hp1 := print_1600 (s.ew _ hee).1 hkn
    have hp2 := print_1600 (s.ew _ hee).2 hkr
    have hlt := letter_len (b.es.getD i E0e).dom
    refine go ?_; intro B5
    refine go ?_
    refine w_dt 17 (by kernel_rfl) ?_
    refine dg ?_
    repeat (refine .cons (p_cat rfl rfl rfl (by simp only [List.length_append, List.length_cons, List.length_nil]; omega)) (dg ?_))
    refine .cons (p_call rfl rfl rfl (c_LetterR (b.es.getD i E0e).dom _)) (dg ?_)
    repeat (refine .cons (p_cat rfl rfl rfl (by simp only [List.length_append, List.length_cons, List.length_nil]; omega)) (dg ?_))
    refine .cons (p_call rfl rfl rfl (c_PrintR (b.es.getD i E0e).name hkn _)) (dg ?_)
    repeat (refine .cons (p_cat rfl rfl rfl (by simp only [List.length_append, List.length_cons, List.length_nil]; omega)) (dg ?_))
    refine .cons (p_call rfl rfl rfl (c_PrintR (b.es.getD i E0e).real hkr _)) (dg ?_)
    repeat (refine .cons (p_cat rfl rfl rfl (by simp only [List.length_append, List.length_cons, List.length_nil]; omega)) (dg ?_))
    refine go ?_
    refine w_as 3 (str (hdS b ++ (b.es.take (i + 1)).flatMap entL)) rfl (by rw [take_flat (d := E0e) hi']; unfold entL; simp only [List.append_assoc]) ?_
    exact w_again (i + 1) (by omega) (by omega)
  have hie : i = b.es.length := by omega
  subst hie
  rw [List.take_length] at hal ⊢
  refine go ?_
  refine w_as 3 (str ((hdS b ++ b.es.flatMap entL) ++ (b.ms.take 0).flatMap momL)) rfl (by simp) ?_
  refine w_loop (fun i : Nat => [(3, str ((hdS b ++ b.es.flatMap entL) ++ (b.ms.take i).flatMap momL)), (6, .int .i64 (i : Int))]) (fun _ => [[(B1, Arr 54 (bookC b a))]]) (fun i _ => i ≤ b.ms.length) (fun i => b.ms.length - i) 0 (by omega) ?_
  intro i G2 _ hi
  have hml2 := ms_len h s i
  refine go ?_
  refine w_cd rfl (fun h3 => ?_) (fun h3 => ?_)
  · have hi' : i < b.ms.length := by omega
    have hE := rdMom hRm hi'
    have hmm : (b.ms.getD i MOM0) ∈ b.ms := by rw [List.getD_eq_getElem?_getD, List.getElem?_eq_getElem hi']; exact List.getElem_mem hi'
    obtain ⟨hw1, hw2⟩ := h.mw _ hmm
    have hi1 := Lib.itoa_length_le (b.ms.getD i MOM0).rank hw1.1 hw1.2
    have hi2 := Lib.itoa_length_le (b.ms.getD i MOM0).time hw2.1 hw2.2
    refine go ?_
    refine w_dt 20 (by kernel_rfl) ?_
    refine dg ?_
    repeat (refine .cons (p_cat rfl rfl rfl (by simp only [List.length_append, List.length_cons, List.length_nil]; omega)) (dg ?_))
    refine .cons (p_call rfl rfl rfl (c_Print6 (b.ms.getD i MOM0).rank hw1 _)) (dg ?_)
    repeat (refine .cons (p_cat rfl rfl rfl (by simp only [List.length_append, List.length_cons, List.length_nil]; omega)) (dg ?_))
    refine .cons (p_call rfl rfl rfl (c_Print6 (b.ms.getD i MOM0).time hw2 _)) (dg ?_)
    repeat (refine .cons (p_cat rfl rfl rfl (by simp only [List.length_append, List.length_cons, List.length_nil]; omega)) (dg ?_))
    refine go ?_
    refine w_as 3 (str ((hdS b ++ b.es.flatMap entL) ++ (b.ms.take (i + 1)).flatMap momL)) rfl (by rw [take_flat (d := MOM0) hi']; unfold momL; simp only [List.append_assoc]) ?_
    exact w_again (i + 1) (by omega) (by omega)
  have hie : i = b.ms.length := by omega
  subst hie
  rw [List.take_length] at hml2 ⊢
  refine go ?_
  refine w_as 3 (str (((hdS b ++ b.es.flatMap entL) ++ b.ms.flatMap momL) ++ (b.rs.take 0).flatMap remL)) rfl (by simp) ?_
  refine w_loop (fun i : Nat => [(3, str (((hdS b ++ b.es.flatMap entL) ++ b.ms.flatMap momL) ++ (b.rs.take i).flatMap remL)), (7, .int .i64 (i : Int))]) (fun _ => [[(B1, Arr 54 (bookC b a))]]) (fun i _ => i ≤ b.rs.length) (fun i => b.rs.length - i) 0 (by omega) ?_
  intro i G3 _ hi
  have hrl2 := rs_len h s i
  refine go ?_
  refine w_cd rfl (fun h3 => ?_) (fun h3 => ?_)
  · have hi' : i < b.rs.length := by omega
    have hE := rdRem hRr hi'
    have hrr := remm (b := b) hi'
    have hw1 := (h.rw' _ hrr).1
    have hnn := s.rw' _ hrr
    have hi1 := Lib.itoa_length_le (b.rs.getD i REM0).event hw1.1 hw1.2
    refine go ?_
    refine w_dt 19 (by kernel_rfl) ?_
    refine dg ?_
    repeat (refine .cons (p_cat rfl rfl rfl (by simp only [List.length_append, List.length_cons, List.length_nil]; omega)) (dg ?_))
    refine .cons (p_call rfl rfl rfl (c_Print6 (b.rs.getD i REM0).event hw1 _)) (dg ?_)
    repeat (refine .cons (p_cat rfl rfl rfl (by simp only [List.length_append, List.length_cons, List.length_nil]; omega)) (dg ?_))
    refine go ?_
    refine w_as 3 (str (((hdS b ++ b.es.flatMap entL) ++ b.ms.flatMap momL) ++ (b.rs.take (i + 1)).flatMap remL)) rfl (by rw [take_flat (d := REM0) hi']; unfold remL; simp only [List.append_assoc]) ?_
    exact w_again (i + 1) (by omega) (by omega)
  have hie : i = b.rs.length := by omega
  subst hie
  rw [List.take_length] at hrl2 ⊢
  refine go ?_
  exact w_ret hQ rfl
end Go.Proofs.YtngoaapgdfohjaaGreatDoor.T27

set_option linter.unusedVariables false
set_option linter.unusedSimpArgs false
set_option maxRecDepth 100000
set_option maxHeartbeats 4000000
namespace Go.Proofs.YtngoaapgdfohjaaGreatDoor.T27
open Go Go.Proofs.YtngoaapgdfohjaaGreatDoor.X Go.Proofs Go.Proofs.YtngoaapgdfohjaaGreatDoor.T28 Go.Proofs.YtngoaapgdfohjaaGreatDoor.TS Go.Proofs.YtngoaapgdfohjaaGreatDoor.TK
/-! ## The document's Print of a book -/
def printB (key : List Int) (b : Book) : Bs := if bookB b = true then openS b ++ sealS key (openS b) else []
attribute [local irreducible] bookB openS sealS
end Go.Proofs.YtngoaapgdfohjaaGreatDoor.T27

set_option linter.unusedVariables false
set_option linter.unusedSimpArgs false
set_option maxRecDepth 100000
set_option maxHeartbeats 4000000
namespace Go.Proofs.YtngoaapgdfohjaaGreatDoor.T27
open Go Go.Proofs.YtngoaapgdfohjaaGreatDoor.X Go.Proofs Go.Proofs.YtngoaapgdfohjaaGreatDoor.T28 Go.Proofs.YtngoaapgdfohjaaGreatDoor.TS Go.Proofs.YtngoaapgdfohjaaGreatDoor.TK
/-! ## Words joined -/
theorem strs_at {G : Heap} {w : World} (hG : X.Sub G w) {b o : Nat} {xs : List Bs} (h : ∀ i x, xs[i]? = some x → ElAt Knd.s G b (o + i * 1) x) : ∀ j u, xs[j]? = some u → w.cell? ⟨b, o + j, none⟩ = some (X.str u) := by
  intro j u hj
  have h1 := kof_open (enc := fun l => X.str l) (h j u hj)
  have h2 := hG.cell (h1 0 _ rfl)
  rwa [Nat.mul_one, Nat.add_zero] at h2
theorem g_join (xs : List Bs) (A : Option Addr) (c : Nat) (w0 : World) (G : Heap) (hG : X.Sub G w0) (hR : Rd Knd.s G A xs) (hc : xs.length ≤ c) (hl : xs.length ≤ 140737488355328) (hj : (Lib.join xs [32]).length ≤ 140737488355328) :
    Calls Tryz.prog 102 #[.slice A xs.length c, X.str [32]] w0 (Ret w0 G (fun v _ => v = X.str (Lib.join xs [32]))) := by
  have em : (xs.map fun l => (⟨l.toArray⟩ : ByteArray)).map (·.data.toList) = xs := by rw [List.map_map]; exact List.map_id _
  rcases hR with rfl | ⟨b, o, rfl, h⟩
  · exact calls_same hG (Tryz.strings_Join_none A c ⟨#[32]⟩ w0)
  · have hcl := strs_at hG h
    by_cases hx : xs = []
    · subst hx
      exact calls_same hG (Tryz.strings_Join_none _ c ⟨#[32]⟩ w0)
    have hpos := List.length_pos_iff.2 hx
    have hbk : b < w0.heap.size := by
      have := hcl 0 _ (List.getElem?_eq_getElem hpos)
      unfold World.cell? at this
      cases hh : w0.heap[b]? with
      | none => simp [hh] at this
      | some o => exact (Array.getElem?_eq_some_iff.1 hh).1
    have := Tryz.strings_Join b o c (xs.map fun l => ⟨l.toArray⟩) ⟨#[32]⟩ w0 (fun j x hj => by
      rw [List.getElem?_map] at hj
      cases hq : xs[j]? with
      | none => simp [hq] at hj
      | some u =>
        rw [hq] at hj
        cases hj
        exact hcl j u hq) hbk (by simpa using hl) (by simpa using hc) (by rw [em]; exact hj)
    rw [em, List.length_map] at this
    exact calls_below hG this
theorem c_SJoin (xs : List Bs) (A : Option Addr) (c : Nat) (G : Heap) (hR : Rd Knd.s G A xs) (hc : xs.length ≤ c) (hl : xs.length ≤ 140737488355328) (hj : (Lib.join xs [32]).length ≤ 140737488355328) : FnP Tryz.prog 102 [.slice A xs.length c, str [32]] G (str (Lib.join xs [32])) := fun w hs => g_join xs A c w G hs hR hc hl hj
theorem c_LJoin (xs : List Bs) (A : Option Addr) (c : Nat) (G : Heap) (hR : Rd Knd.s G A xs) (hc : xs.length ≤ c) (hl : xs.length ≤ 140737488355328) (hj : (Lib.join xs [32]).length ≤ 140737488355328) : FnP Tryz.prog 86 [.slice A xs.length c] G (str (Lib.join xs [32])) := by
  refine fnP_in Tryz.func86 rfl Tryz.ntmps86 rfl fun w0 Q0 hQ => ?_
  refine go ?_
  refine w_stp (p_call rfl rfl rfl (c_SJoin xs A c _ hR.up hc hl hj)) ?_
  refine go ?_
  exact w_ret hQ rfl
end Go.Proofs.YtngoaapgdfohjaaGreatDoor.T27
