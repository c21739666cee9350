/- Own text. -/
import Derived.Test.YtngoaapgdfohjaaGreatDoorV4
import Derived.Test.YtngoaapgdfohjaaGreatDoorW21
set_option linter.unusedVariables false
set_option linter.unusedSimpArgs false
set_option maxRecDepth 100000
set_option maxHeartbeats 4000000
namespace Go.Proofs.YtngoaapgdfohjaaGreatDoor.T27
open Go Go.Proofs.YtngoaapgdfohjaaGreatDoor.X Go.Proofs Go.Proofs.YtngoaapgdfohjaaGreatDoor.T28 Go.Proofs.YtngoaapgdfohjaaGreatDoor.TS Go.Proofs.YtngoaapgdfohjaaGreatDoor.TK
/-! ## A book of any size, among the arguments -/
structure RdG (G : Heap) (b : Book) (a : Bk) : Prop where
  e : Rd kEnt G a.Ae b.es
  m : Rd kMom G a.Am b.ms
  r : Rd kRem G a.Ar b.rs
  ec : b.es.length ≤ a.ce
  mc : b.ms.length ≤ a.cm
  rc : b.rs.length ≤ a.cr
  el : b.es.length ≤ 9223372036854775807
  ml : b.ms.length ≤ 9223372036854775807
  rl : b.rs.length ≤ 9223372036854775807
  ew : ∀ x ∈ b.es, I64 x.dom ∧ x.name.Wf ∧ x.real.Wf
  mw : ∀ x ∈ b.ms, I64 x.rank ∧ I64 x.time
  rw' : ∀ x ∈ b.rs, I64 x.event ∧ x.note.length ≤ 9223372036854775807
theorem RdG.up {A B : Heap} [h : LeT A B] {b : Book} {a : Bk} (r : RdG A b a) : RdG B b a := ⟨r.e.up, r.m.up, r.r.up, r.ec, r.mc, r.rc, r.el, r.ml, r.rl, r.ew, r.mw, r.rw'⟩
theorem RdG.small {G : Heap} {b : Book} {a : Bk} (h : RdG G b a) (s : SmallG b) : RdB G b a := ⟨h.e, h.m, h.r, h.ec, h.mc, h.rc, by have := s.e; omega, by have := s.m; omega, by have := s.r; omega, h.ew, h.mw, fun x hx => ⟨(h.rw' x hx).1, by have := s.rw' x hx; omega⟩⟩
theorem RdB.right {G : Heap} {b : Book} {a : Bk} (h : RdB G b a) (hb : bookB b = true) : BkR b := book_R hb (fun x hx => (h.ew x hx).2) h.mw
theorem c_greatG (b : Book) (a : Bk) (kn : Nat) (A : Option Addr) (c : Nat) (G : Heap) (h : RdG G b a) : FnR Tryz.prog 26 [vB b a, .slice A kn c] G (fun v _ => ∃ t, v = .bool t ∧ (t = false → SmallG b ∧ kn ≤ 200)) := by
  refine fn_in Tryz.func26 rfl Tryz.ntmps26 rfl fun w0 Q0 hQ => ?_
  have hRe := h.e
  have hRr := h.r
  have hel := h.el
  have hml := h.ml
  have hrl := h.rl
  refine go ?_; intro B1
  refine go ?_
  refine w_loop (fun i : Nat => [(12, .int .i64 (i : Int))]) (fun _ => [[(B1, Arr 54 (bookC b a))]]) (fun i _ => i ≤ b.es.length ∧ ∀ j, j < i → (b.es.getD j E0e).name.s.length ≤ 100 ∧ (b.es.getD j E0e).real.s.length ≤ 100) (fun i => b.es.length - i) 0 ⟨by omega, fun j hj => by omega⟩ ?_
  rintro i G1 _ ⟨hi, hs⟩
  refine go ?_
  refine w_cd rfl (fun h3 => ?_) (fun h3 => ?_)
  · have hi' : i < b.es.length := by omega
    have hE := hRe.ent hi'
    refine go ?_; intro B6
    refine go ?_
    refine w_or (y := decide (100 < ((b.es.getD i E0e).real.s.length : Int))) 27 21 rfl (fun h => ?_) (fun h => ?_) ?_
    · refine go ?_; exact w_at
    · refine go ?_; exact w_at
    refine go ?_
    refine w_cond rfl (fun h4 => ?_) (fun h4 => ?_)
    · refine go ?_
      exact w_ret hQ ⟨true, rfl, fun h => by cases h⟩
    · refine go ?_
      refine w_again (i + 1) ⟨by omega, fun j hj => ?_⟩ (by omega)
      rcases Nat.lt_or_ge j i with h | h
      · exact hs j h
      · obtain rfl : j = i := by omega
        simp only [Bool.or_eq_false_iff, decide_eq_false_iff_not] at h4
        omega
  · obtain rfl : i = b.es.length := by omega
    refine go ?_
    refine w_loop (fun i : Nat => [(32, .int .i64 (i : Int))]) (fun _ => [[(B1, Arr 54 (bookC b a))]]) (fun i _ => i ≤ b.rs.length ∧ ∀ j, j < i → (b.rs.getD j REM0).note.length ≤ 200) (fun i => b.rs.length - i) 0 ⟨by omega, fun j hj => by omega⟩ ?_
    rintro i G2 _ ⟨hi2, hs2⟩
    refine go ?_
    refine w_cd rfl (fun h3 => ?_) (fun h3 => ?_)
    · have hi' : i < b.rs.length := by omega
      have hE := rdRem hRr hi'
      refine go ?_; intro B6
      refine go ?_
      refine w_cd rfl (fun h4 => ?_) (fun h4 => ?_)
      · refine go ?_
        exact w_ret hQ ⟨true, rfl, fun h => by cases h⟩
      · refine go ?_
        refine w_again (i + 1) ⟨by omega, fun j hj => ?_⟩ (by omega)
        rcases Nat.lt_or_ge j i with h | h
        · exact hs2 j h
        · obtain rfl : j = i := by omega
          omega
    · obtain rfl : i = b.rs.length := by omega
      refine go ?_
      refine w_or (y := decide (30 < (b.ms.length : Int))) 50 45 rfl (fun h => ?_) (fun h => ?_) ?_
      · refine go ?_; exact w_at
      · refine go ?_; exact w_at
      refine go ?_
      refine w_or (y := decide (30 < (b.rs.length : Int))) 56 51 rfl (fun h => ?_) (fun h => ?_) ?_
      · refine go ?_; exact w_at
      · refine go ?_; exact w_at
      refine go ?_
      refine w_or (y := decide (200 < (kn : Int))) 61 57 rfl (fun h => ?_) (fun h => ?_) ?_
      · refine go ?_; exact w_at
      · refine go ?_; exact w_at
      refine go ?_
      refine w_ret hQ ⟨_, rfl, fun ht => ?_⟩
      simp only [Bool.or_eq_false_iff, decide_eq_false_iff_not] at ht
      refine ⟨⟨by omega, by omega, by omega, fun x hx => ?_, fun x hx => ?_⟩, by omega⟩
      · obtain ⟨j, hj, rfl⟩ := List.mem_iff_getElem.1 hx
        have := hs j hj
        rwa [List.getD_eq_getElem?_getD, List.getElem?_eq_getElem hj, Option.getD_some] at this
      · obtain ⟨j, hj, rfl⟩ := List.mem_iff_getElem.1 hx
        have := hs2 j hj
        rwa [List.getD_eq_getElem?_getD, List.getElem?_eq_getElem hj, Option.getD_some] at this
section
variable {H : Type} {enc : TypeId × Value → H} {P : Program} {w : World} {base : Nat} {spare : Nat → Bool} {held : Bool}
theorem open_ent' {t : TypeId} (ht : leaves P 9 t = some [.int .i64, .int .i64, .int .i64, .str, .int .i64, .int .i64, .str]) {n : Nat} {cs : List Value} {x : DataW H × List MemPlace} (h : DataW.trod enc P w base spare held n t cs = some x) : ∃ a : Ent, (I64 a.dom ∧ a.name.Wf ∧ a.real.Wf) ∧ kEnt.R (hp w) a cs := by
  obtain ⟨v0, r0, rfl, ⟨d, rfl, h0⟩, v1, r1, rfl, ⟨k1, rfl, h1⟩, v2, r2, rfl, ⟨n1, rfl, h2⟩, v3, r3, rfl, ⟨s1, rfl, h3⟩, v4, r4, rfl, ⟨k2, rfl, h4⟩, v5, r5, rfl, ⟨n2, rfl, h5⟩, v6, r6, rfl, ⟨s2, rfl, h6⟩, rfl⟩ := leafs_of _ _ _ ht _ _ _ h
  exact ⟨⟨d, ⟨k1, n1, s1⟩, ⟨k2, n2, s2⟩⟩, ⟨i64_of h0, ⟨i64_of h1, i64_of h2, h3⟩, ⟨i64_of h4, i64_of h5, h6⟩⟩, rfl⟩
theorem open_mom' {t : TypeId} (ht : leaves P 9 t = some [.int .i64, .int .i64]) {n : Nat} {cs : List Value} {x : DataW H × List MemPlace} (h : DataW.trod enc P w base spare held n t cs = some x) : ∃ a : Mom, (I64 a.rank ∧ I64 a.time) ∧ kMom.R (hp w) a cs := by
  obtain ⟨v0, r0, rfl, ⟨d, rfl, h0⟩, v1, r1, rfl, ⟨k1, rfl, h1⟩, rfl⟩ := leafs_of _ _ _ ht _ _ _ h
  exact ⟨⟨d, k1⟩, ⟨i64_of h0, i64_of h1⟩, rfl⟩
theorem open_rem' {t : TypeId} (ht : leaves P 9 t = some [.int .i64, .str]) {n : Nat} {cs : List Value} {x : DataW H × List MemPlace} (h : DataW.trod enc P w base spare held n t cs = some x) : ∃ a : Rem, (I64 a.event ∧ a.note.length ≤ 9223372036854775807) ∧ kRem.R (hp w) a cs := by
  obtain ⟨v0, r0, rfl, ⟨d, rfl, h0⟩, v1, r1, rfl, ⟨s, rfl, h1⟩, rfl⟩ := leafs_of _ _ _ ht _ _ _ h
  exact ⟨⟨d, s⟩, ⟨i64_of h0, h1⟩, rfl⟩
theorem open_bookG {t te tm tr : TypeId} (he : leaves P 9 te = some [.int .i64, .int .i64, .int .i64, .str, .int .i64, .int .i64, .str]) (hse : P.cellsOf te = 7) (hm : leaves P 9 tm = some [.int .i64, .int .i64]) (hsm : P.cellsOf tm = 2) (hr : leaves P 9 tr = some [.int .i64, .str]) (hsr : P.cellsOf tr = 2)
    (ht : leaves P 9 t = some [.int .i64, .int .i64, .int .i64, .int .i64, .int .i64, .int .i64, .int .i64, .int .i64, .int .i64, .int .i64, .int .i64, .int .i64, .bool, .bool, .sl te, .sl tm, .sl tr]) {n : Nat} {cs : List Value} {x : DataW H × List MemPlace} (h : DataW.trod enc P w base spare held n t cs = some x) :
    ∃ (b : Book) (a : Bk), cs = bookC b a ∧ RdG (hp w) b a := by
  obtain ⟨v0, r0, rfl, ⟨a0, rfl, h0⟩, v1, r1, rfl, ⟨a1, rfl, h1⟩, v2, r2, rfl, ⟨a2, rfl, h2⟩, v3, r3, rfl, ⟨a3, rfl, h3⟩, v4, r4, rfl, ⟨a4, rfl, h4⟩, v5, r5, rfl, ⟨a5, rfl, h5⟩, v6, r6, rfl, ⟨a6, rfl, h6⟩, v7, r7, rfl, ⟨a7, rfl, h7⟩, v8, r8, rfl, ⟨a8, rfl, h8⟩, v9, r9, rfl, ⟨a9, rfl, h9⟩, v10, r10, rfl, ⟨a10, rfl, h10⟩, v11, r11, rfl, ⟨a11, rfl, h11⟩, v12, r12, rfl, ⟨b0, rfl⟩, v13, r13, rfl, ⟨b1, rfl⟩, v14, r14, rfl, h14, v15, r15, rfl, h15, v16, r16, rfl, h16, rfl⟩ := leafs_of _ _ _ ht _ _ _ h
  obtain ⟨A1, xs1, c1, rfl, f1, f2, f3, f4⟩ := h14.list (K := kEnt) (fun n cs x h => open_ent' he h) hse
  obtain ⟨A2, xs2, c2, rfl, g1, g2, g3, g4⟩ := h15.list (K := kMom) (fun n cs x h => open_mom' hm h) hsm
  obtain ⟨A3, xs3, c3, rfl, k1, k2, k3, k4⟩ := h16.list (K := kRem) (fun n cs x h => open_rem' hr h) hsr
  exact ⟨⟨⟨⟨a0, a1⟩, ⟨a2, a3⟩, ⟨a4, a5⟩, ⟨a6, a7⟩, ⟨a8, a9⟩, a10, a11, b0, b1⟩, xs1, xs2, xs3⟩, ⟨A1, c1, A2, c2, A3, c3⟩, rfl, ⟨f4, g4, k4, f1, g1, k1, by dsimp only; omega, by dsimp only; omega, by dsimp only; omega, f3, g3, k3⟩⟩
end
end Go.Proofs.YtngoaapgdfohjaaGreatDoor.T27
