/- Own text. -/
import Derived.Test.YtnfadpkhjfillaaDoorU15
import Derived.Test.YtnfadpkhjfillaaDoorX35
set_option linter.unusedVariables false
set_option linter.unusedSimpArgs false
namespace Go.Proofs.YtnfadpkhjfillaaDoor.T28
open Go Go.Proofs.YtnfadpkhjfillaaDoor.X
abbrev bookCells (b : Book) (Ae : Option Addr) (ce : Nat) (Am : Option Addr) (cm : Nat) (Ar : Option Addr) (cr : Nat) : List Value := [.int .i64 b.pol.r0.way, .int .i64 b.pol.r0.size, .int .i64 b.pol.r1.way, .int .i64 b.pol.r1.size, .int .i64 b.pol.r2.way, .int .i64 b.pol.r2.size, .int .i64 b.pol.r3.way, .int .i64 b.pol.r3.size, .int .i64 b.pol.r4.way, .int .i64 b.pol.r4.size, .int .i64 b.pol.time, .int .i64 b.pol.note, .bool b.pol.loose, .bool b.pol.force, .slice Ae b.es.length ce, .slice Am b.ms.length cm, .slice Ar b.rs.length cr]
section
variable {H : Type} {enc : TypeId × Value → H} {P : Program} {w : World} {base : Nat} {spare : Nat → Bool} {held : Bool}
theorem open_ent {t : TypeId} (ht : leaves P 9 t = some [.int .i64, .int .i64, .int .i64, .str, .int .i64, .int .i64, .str]) {n : Nat} {cs : List Value} {x : DataW H × List MemPlace} (h : DataW.trod enc P w base spare held n t cs = some x) : ∃ a : Ent, (I64 a.dom ∧ a.name.Wf ∧ a.real.Wf) ∧ kEnt.R (hp w) a cs := by
  obtain ⟨v0, r0, rfl, ⟨d, rfl, h0⟩, v1, r1, rfl, ⟨k1, rfl, h1⟩, v2, r2, rfl, ⟨n1, rfl, h2⟩, v3, r3, rfl, ⟨s1, rfl, h3⟩, v4, r4, rfl, ⟨k2, rfl, h4⟩, v5, r5, rfl, ⟨n2, rfl, h5⟩, v6, r6, rfl, ⟨s2, rfl, h6⟩, rfl⟩ := leafs_of _ _ _ ht _ _ _ h
  exact ⟨⟨d, ⟨k1, n1, s1⟩, ⟨k2, n2, s2⟩⟩, ⟨i64_of h0, ⟨i64_of h1, i64_of h2, h3⟩, ⟨i64_of h4, i64_of h5, h6⟩⟩, rfl⟩
theorem open_mom {t : TypeId} (ht : leaves P 9 t = some [.int .i64, .int .i64]) {n : Nat} {cs : List Value} {x : DataW H × List MemPlace} (h : DataW.trod enc P w base spare held n t cs = some x) : ∃ a : Mom, True ∧ kMom.R (hp w) a cs := by
  obtain ⟨v0, r0, rfl, ⟨d, rfl, h0⟩, v1, r1, rfl, ⟨k1, rfl, h1⟩, rfl⟩ := leafs_of _ _ _ ht _ _ _ h
  exact ⟨⟨d, k1⟩, trivial, rfl⟩
theorem open_rem {t : TypeId} (ht : leaves P 9 t = some [.int .i64, .str]) {n : Nat} {cs : List Value} {x : DataW H × List MemPlace} (h : DataW.trod enc P w base spare held n t cs = some x) : ∃ a : Rem, a.note.length ≤ 9223372036854775807 ∧ kRem.R (hp w) a cs := by
  obtain ⟨v0, r0, rfl, ⟨d, rfl, h0⟩, v1, r1, rfl, ⟨s, rfl, h1⟩, rfl⟩ := leafs_of _ _ _ ht _ _ _ h
  exact ⟨⟨d, s⟩, h1, rfl⟩
theorem open_book {t te tm tr : TypeId} (he : leaves P 9 te = some [.int .i64, .int .i64, .int .i64, .str, .int .i64, .int .i64, .str]) (hse : P.cellsOf te = 7) (hm : leaves P 9 tm = some [.int .i64, .int .i64]) (hsm : P.cellsOf tm = 2) (hr : leaves P 9 tr = some [.int .i64, .str]) (hsr : P.cellsOf tr = 2)
    (ht : leaves P 9 t = some [.int .i64, .int .i64, .int .i64, .int .i64, .int .i64, .int .i64, .int .i64, .int .i64, .int .i64, .int .i64, .int .i64, .int .i64, .bool, .bool, .sl te, .sl tm, .sl tr]) {n : Nat} {cs : List Value} {x : DataW H × List MemPlace} (h : DataW.trod enc P w base spare held n t cs = some x) :
    ∃ (b : Book) (Ae : Option Addr) (ce : Nat) (Am : Option Addr) (cm : Nat) (Ar : Option Addr) (cr : Nat), cs = bookCells b Ae ce Am cm Ar cr ∧ (b.es.length ≤ 9223372036854775807 ∧ b.ms.length ≤ 9223372036854775807 ∧ b.rs.length ≤ 9223372036854775807) ∧ (∀ x ∈ b.es, I64 x.dom ∧ x.name.Wf ∧ x.real.Wf) ∧ (∀ x ∈ b.rs, x.note.length ≤ 9223372036854775807) ∧ Rd kEnt (hp w) Ae b.es ∧ Rd kMom (hp w) Am b.ms ∧ Rd kRem (hp w) Ar b.rs := by
  obtain ⟨v0, r0, rfl, ⟨a0, rfl, h0⟩, v1, r1, rfl, ⟨a1, rfl, h1⟩, v2, r2, rfl, ⟨a2, rfl, h2⟩, v3, r3, rfl, ⟨a3, rfl, h3⟩, v4, r4, rfl, ⟨a4, rfl, h4⟩, v5, r5, rfl, ⟨a5, rfl, h5⟩, v6, r6, rfl, ⟨a6, rfl, h6⟩, v7, r7, rfl, ⟨a7, rfl, h7⟩, v8, r8, rfl, ⟨a8, rfl, h8⟩, v9, r9, rfl, ⟨a9, rfl, h9⟩, v10, r10, rfl, ⟨a10, rfl, h10⟩, v11, r11, rfl, ⟨a11, rfl, h11⟩, v12, r12, rfl, ⟨b0, rfl⟩, v13, r13, rfl, ⟨b1, rfl⟩, v14, r14, rfl, h14, v15, r15, rfl, h15, v16, r16, rfl, h16, rfl⟩ := leafs_of _ _ _ ht _ _ _ h
  obtain ⟨A1, xs1, c1, rfl, f1, f2, f3, f4⟩ := h14.list (K := kEnt) (fun n cs x h => open_ent he h) hse
  obtain ⟨A2, xs2, c2, rfl, g1, g2, g3, g4⟩ := h15.list (K := kMom) (fun n cs x h => open_mom hm h) hsm
  obtain ⟨A3, xs3, c3, rfl, k1, k2, k3, k4⟩ := h16.list (K := kRem) (fun n cs x h => open_rem hr h) hsr
  exact ⟨⟨⟨⟨a0, a1⟩, ⟨a2, a3⟩, ⟨a4, a5⟩, ⟨a6, a7⟩, ⟨a8, a9⟩, a10, a11, b0, b1⟩, xs1, xs2, xs3⟩, A1, c1, A2, c2, A3, c3, rfl, ⟨by dsimp only; omega, by dsimp only; omega, by dsimp only; omega⟩, f3, k3, f4, g4, k4⟩
theorem len_by {B R n : Nat} (h : n * B ≤ R) (hB : B = 32) (hR : R ≤ 140737488355328) : n ≤ 4398046511104 := by subst hB; omega
theorem law_row {B : Nat} (hB : B = 32) (h : List Evt) (A : Option Addr) (c : Nat) (b : Book) (Ae : Option Addr) (ce : Nat) (Am : Option Addr) (cm : Nat) (Ar : Option Addr) (cr : Nat) (w0 : World) (G : Heap) (hG : Sub G w0)
    (hg0 : CellsAt G 0 0 [.int .i64 3, .int .i64 1, str []]) (hg1 : CellsAt G 1 0 [.int .i64 3, .int .i64 0, str []]) (hR : Rd kEvt G A h) (hl : h.length ≤ 9223372036854775807) (hw : ∀ x ∈ h, x.Wf ∧ EvBy B reachBytes x)
    (hbl : b.es.length ≤ 9223372036854775807 ∧ b.ms.length ≤ 9223372036854775807 ∧ b.rs.length ≤ 9223372036854775807) (hew : ∀ x ∈ b.es, I64 x.dom ∧ x.name.Wf ∧ x.real.Wf) (hrw : ∀ x ∈ b.rs, x.note.length ≤ 9223372036854775807) (hRe : Rd kEnt G Ae b.es) (hRm : Rd kMom G Am b.ms) (hRr : Rd kRem G Ar b.rs) :
    Calls Tryd.prog 3 #[.slice A h.length c, .agg (bookCells b Ae ce Am cm Ar cr).toArray] w0 (Ret w0 G (fun v _ => v = .bool true)) :=
  law_UnveilApplies h A c b Ae ce Am cm Ar cr w0 G hG hg0 hg1 hR hl (fun x hx => (hw x hx).1) (fun x hx => ⟨len_by (hw x hx).2.1 hB (by decide), len_by (hw x hx).2.2 hB (by decide)⟩) hRe hRm hRr hbl.1 hbl.2.1 hbl.2.2 hew hrw
end
end Go.Proofs.YtnfadpkhjfillaaDoor.T28
