/- Own text. -/
import Derived.Test.YtngoaapgdfohjaaGreatDoorW12
set_option linter.unusedVariables false
set_option linter.unusedSimpArgs false
set_option maxRecDepth 100000
set_option maxHeartbeats 4000000
namespace Go.Proofs.YtngoaapgdfohjaaGreatDoor.T27
open Go Go.Proofs.YtngoaapgdfohjaaGreatDoor.X Go.Proofs Go.Proofs.YtngoaapgdfohjaaGreatDoor.T28 Go.Proofs.YtngoaapgdfohjaaGreatDoor.TS Go.Proofs.YtngoaapgdfohjaaGreatDoor.TK
/-! ## A line of a book, taken in -/
section
variable {P : Program} {Q0 : Exit → Act → World → Prop} {N : Nat} {D : List Deferred} {w0 : World} {G0 : Heap} {K0 : List Nat} {s : List Itm} {G : Heap} {L : List (Nat × Value)} {M : List Chunk}
/-- A region that draws, by an invariant of one's own. -/
theorem w_ds {id : Nat} {l : List Oper} (n : Nat) (WI : (Nat → Bool) → (Nat → Option Value) → Heap → World → Prop) (V : List (Value → Heap → Prop)) [m : Mix P] (hb : backOk l.toArray = true) (hq : seqB l n = true)
    (h0 : ∀ a w, Env a N D L → St w0 G0 K0 G w M → WI (fun _ => false) (fun t => a.tmps[t]?) G w) (hmono : ∀ p ∈ V, ∀ v A B, Heap.le A B → p v A → p v B)
    (hstep : AllF (StepS P (aft P Q0 s) N D L WI l V) 0 (l.take n) V)
    (hend : ∀ a w G' f, Heap.le G G' → (∀ i, i < n → i < l.length → f i = true) → WI f (fun t => a.tmps[t]?) G' w → Env a N D L → (∀ j d q, dstOf l.toArray j = some d → V[j]? = some q → ∃ v, a.tmps[d]? = some v ∧ q v G') → aft P Q0 (.ops l.toArray (l.drop n) :: s) .normal a w)
    (hf : freshF (l.take n) L [] = true := by exact rfl) : W P Q0 N D w0 G0 K0 (.co (.region id l.toArray true) :: s) G L M :=
  W.of fun a w E S => drawnS n WI V m.h hb hq E (h0 a w.drew E S.drew) hf hmono hstep hend
end
def bkE (b : Book) (a : Bk) : List (Nat × Value) := [(0, .int .i64 b.pol.r0.way), (1, .int .i64 b.pol.r0.size), (2, .int .i64 b.pol.r1.way), (3, .int .i64 b.pol.r1.size), (4, .int .i64 b.pol.r2.way), (5, .int .i64 b.pol.r2.size), (6, .int .i64 b.pol.r3.way), (7, .int .i64 b.pol.r3.size), (8, .int .i64 b.pol.r4.way), (9, .int .i64 b.pol.r4.size), (10, .int .i64 b.pol.time), (11, .int .i64 b.pol.note), (12, .bool b.pol.loose), (13, .bool b.pol.force), (14, .slice a.Ae b.es.length a.ce), (15, .slice a.Am b.ms.length a.cm), (16, .slice a.Ar b.rs.length a.cr)]
abbrev bkB (B : Nat) (b : Book) (a : Bk) : Chunk := [(B, Cells 54 (bkE b a))]
/-- A book that is being put together: its lists are one's own. -/
structure OwB (G : Heap) (b : Book) (a : Bk) (Ce Cm Cr : Chunk) : Prop where
  e : X.Own kEnt 70 G a.Ae a.ce b.es Ce
  m : X.Own kMom 85 G a.Am a.cm b.ms Cm
  r : X.Own kRem 82 G a.Ar a.cr b.rs Cr
theorem OwB.up {G G' : Heap} [h : LeT G G'] {b : Book} {a : Bk} {Ce Cm Cr : Chunk} (o : OwB G b a Ce Cm Cr) : OwB G' b a Ce Cm Cr := ⟨o.e.le h.le, o.m.le h.le, o.r.le h.le⟩
section
attribute [local irreducible] parseV parseS countS entOkB
theorem f_row (b : Book) (a : Bk) (s : Bs) (B : Nat) (Ce Cm Cr : Chunk) (G : Heap) (g : Gl G) (hO : OwB G b a Ce Cm Cr) (hs : s.length ≤ 4294967000) (hn : b.es.length ≤ 100000000 ∧ b.ms.length ≤ 100000000 ∧ b.rs.length ≤ 100000000) :
    FnT Tryz.prog 103 [.pointer (some ⟨B, 0, none⟩), str s] G [bkB B b a, Ce, Cm, Cr] TF (fun v G' Ms => ∃ b' a' Ce' Cm' Cr', rowS b s = some b' ∧ Ms = [bkB B b' a', Ce', Cm', Cr'] ∧ OwB G' b' a' Ce' Cm' Cr') (fun e => rowS b s = none ∧ e = bad10) := by
  refine fnT_in Tryz.func103 rfl Tryz.ntmps103 rfl fun w0 K0 Q0 hQ => ?_
  refine go ?_
  refine w_stp (p_call rfl rfl rfl (c_Note s (by omega) _ g)) ?_
  refine go ?_
  refine w_callX rfl rfl rfl (f_must _ _) .nil (kpT hQ ?_) fun v G1 Ms _ hr => ?_
  · rintro e ⟨h, rfl⟩
    refine ⟨?_, rfl⟩
    unfold rowS
    rw [if_neg (by intro e; exact of_decide_eq_false h e.1)]
  obtain ⟨rfl, h1⟩ := hr
  have hn1 : (noteS s).2.2.2 = 0 := of_decide_eq_true h1
  have hnl := note_len s
  refine go ?_
  refine w_call rfl rfl rfl (c_Words (noteS s).1 (by omega) _ g.up) fun v G2 _ hr => ?_
  obtain ⟨A, c, rfl, hc, hR⟩ := hr
  refine go ?_
  refine w_callX rfl rfl rfl (f_must _ _) .nil (kpT hQ ?_) fun v G3 Ms _ hr => ?_
  · rintro e ⟨h, rfl⟩
    refine ⟨?_, rfl⟩
    unfold rowS
    rw [if_neg (by intro e; exact of_decide_eq_false h e.2)]
  obtain ⟨rfl, h2⟩ := hr
  have hw0 : (wordsS (noteS s).1).2 = 0 := of_decide_eq_true h2
  have hpos := words_pos hw0
  have hwl : ∀ x ∈ (wordsS (noteS s).1).1, x.length ≤ 4294967000 := fun x hx => by
    have := words_mem hx
    omega
  have hrow : rowS b s = rowW b (wordsS (noteS s).1).1 (noteS s).2.1 (noteS s).2.2.1 := by unfold rowS; rw [if_pos ⟨hn1, hw0⟩]
  generalize (wordsS (noteS s).1).1 = ws at hR hc hpos hwl hrow ⊢
  generalize (noteS s).2.1 = note at hrow ⊢
  generalize (noteS s).2.2.1 = noted at hrow ⊢
  generalize (wordsS (noteS s).1).2 = zz at h2 hw0 ⊢
  refine go ?_
  refine w_and (y := !noted) 76 73 rfl (fun h => ?_) (fun h => ?_) ?_
  · refine go ?_; exact w_at
  · refine go ?_; exact w_at
  refine go ?_
  refine w_cond rfl (fun hc1 => ?_) (fun hc1 => ?_)
  · have hr1 : rowW b ws note noted = if entOkB ws = true then some { b with es := b.es ++ [entX ws] } else none := by unfold rowW; rw [if_pos (show isName ws noted = true from hc1)]
    refine go ?_
    refine w_ds 9 (fun f sl G' w' => Heap.le G3 G' ∧ (bif f 8 then ∃ A' c' C', entOkB ws = true ∧ sl 85 = some (.slice A' (b.es ++ [entX ws]).length c') ∧ X.Own kEnt 70 G' A' c' (b.es ++ [entX ws]) C' ∧ St w0 G K0 G' w' [C', bkB B b a, Cm, Cr] else St w0 G K0 G' w' [bkB B b a, Ce, Cm, Cr]))
      [isV (.pointer (some ⟨B, 0, none⟩)), isV (.pointer (some ⟨B, 0, none⟩)), isV (.pointer (some ⟨B, 0, none⟩)), isV (.pointer (some ⟨B, 0 + 14, none⟩)), isV (.slice a.Ae b.es.length a.ce), isV (.slice A ws.length c), fun v _ => entOkB ws = true ∧ v = vE (entX ws), fun v G' => ∃ bb, entOkB ws = true ∧ v = .slice (some ⟨bb, 0, none⟩) 1 1 ∧ Rd kEnt G' (some ⟨bb, 0, none⟩) [entX ws], fun _ _ => True]
      (by kernel_rfl) (by kernel_rfl) (fun _ _ _ S => ⟨Heap.le.refl _, S⟩) ?_ ⟨?_, ?_, ?_, ?_, ?_, ?_, ?_, ?_, ?_, trivial⟩ ?_
    · intro p hp v X Y hXY hpv
      simp only [List.mem_cons, List.not_mem_nil, or_false] at hp
      rcases hp with rfl | rfl | rfl | rfl | rfl | rfl | rfl | rfl | rfl
      · exact hpv
      · exact hpv
      · exact hpv
      · exact hpv
      · exact hpv
      · exact hpv
      · exact hpv
      · obtain ⟨bb, h1, h2, h3⟩ := hpv
        exact ⟨bb, h1, h2, h3.le hXY⟩
      · trivial
    · intro a1 w1 G1' f hcl hf hon hW E1 hv
      exact o_move E1 rfl rfl fun a' E' => ⟨_, G1', Heap.le.refl _, hW, fun d hd => by cases hd; exact E'.get _ _ rfl, E'.defers, rfl⟩
    · intro a1 w1 G1' f hcl hf hon hW E1 hv
      have h8 : f 8 = false := by
        cases h : f 8 with
        | false => rfl
        | true => exact absurd (show f 1 = true from (hcl 2 _ rfl (hcl 3 _ rfl (hcl 4 _ rfl (hcl 8 _ rfl h 4 rfl) 3 rfl) 2 rfl) 1 rfl)) (by rw [hf]; simp)
      have hS : St w0 G K0 G1' w1 [bkB B b a, Ce, Cm, Cr] := by have := hW.2; rw [h8] at this; exact this
      refine (p_pop rfl rfl).run _ [] a1 w1 G1' (Heap.le.refl _) E1 hS fun a' w' G2 hl E' S' => ⟨_, G2, hl, ⟨hW.1.trans hl, ?_⟩, fun d hd => by cases hd; exact E'.get _ _ rfl, E'.defers, rfl⟩
      show (bif f 8 then _ else _)
      rw [h8]
      exact S'
    · intro a1 w1 G1' f hcl hf hon hW E1 hv
      have h8 : f 8 = false := by
        cases h : f 8 with
        | false => rfl
        | true => exact absurd (show f 2 = true from (hcl 3 _ rfl (hcl 4 _ rfl (hcl 8 _ rfl h 4 rfl) 3 rfl) 2 rfl)) (by rw [hf]; simp)
      have hS : St w0 G K0 G1' w1 [bkB B b a, Ce, Cm, Cr] := by have := hW.2; rw [h8] at this; exact this
      obtain ⟨v0, hv0, e0⟩ := hv 1 78 _ (hon 1 rfl) rfl rfl
      have e0' : v0 = _ := e0
      subst e0'
      refine (p_pop rfl rfl).run _ [] a1 w1 G1' (Heap.le.refl _) (E1.add hv0) hS fun a' w' G2 hl E' S' => ⟨_, G2, hl, ⟨hW.1.trans hl, ?_⟩, fun d hd => by cases hd; exact E'.get _ _ rfl, E'.defers, rfl⟩
      show (bif f 8 then _ else _)
      rw [h8]
      exact S'
    · intro a1 w1 G1' f hcl hf hon hW E1 hv
      have h8 : f 8 = false := by
        cases h : f 8 with
        | false => rfl
        | true => exact absurd (show f 3 = true from (hcl 4 _ rfl (hcl 8 _ rfl h 4 rfl) 3 rfl)) (by rw [hf]; simp)
      have hS : St w0 G K0 G1' w1 [bkB B b a, Ce, Cm, Cr] := by have := hW.2; rw [h8] at this; exact this
      obtain ⟨v0, hv0, e0⟩ := hv 2 79 _ (hon 2 rfl) rfl rfl
      have e0' : v0 = _ := e0
      subst e0'
      refine (p_pop rfl rfl).run _ [] a1 w1 G1' (Heap.le.refl _) (E1.add hv0) hS fun a' w' G2 hl E' S' => ⟨_, G2, hl, ⟨hW.1.trans hl, ?_⟩, fun d hd => by cases hd; exact E'.get _ _ rfl, E'.defers, rfl⟩
      show (bif f 8 then _ else _)
      rw [h8]
      exact S'
    · intro a1 w1 G1' f hcl hf hon hW E1 hv
      have h8 : f 8 = false := by
        cases h : f 8 with
        | false => rfl
        | true => exact absurd (show f 4 = true from (hcl 8 _ rfl h 4 rfl)) (by rw [hf]; simp)
      have hS : St w0 G K0 G1' w1 [bkB B b a, Ce, Cm, Cr] := by have := hW.2; rw [h8] at this; exact this
      obtain ⟨v0, hv0, e0⟩ := hv 3 80 _ (hon 3 rfl) rfl rfl
      have e0' : v0 = _ := e0
      subst e0'
      refine (p_ld rfl rfl rfl (.here .here) rfl).run _ [] a1 w1 G1' (Heap.le.refl _) (E1.add hv0) hS fun a' w' G2 hl E' S' => ⟨_, G2, hl, ⟨hW.1.trans hl, ?_⟩, fun d hd => by cases hd; exact E'.get _ _ rfl, E'.defers, rfl⟩
      show (bif f 8 then _ else _)
      rw [h8]
      exact S'
    · intro a1 w1 G1' f hcl hf hon hW E1 hv
      have h8 : f 8 = false := by
        cases h : f 8 with
        | false => rfl
        | true => exact absurd (show f 5 = true from (hcl 6 _ rfl (hcl 8 _ rfl h 6 rfl) 5 rfl)) (by rw [hf]; simp)
      have hS : St w0 G K0 G1' w1 [bkB B b a, Ce, Cm, Cr] := by have := hW.2; rw [h8] at this; exact this
      refine (p_pop rfl rfl).run _ [] a1 w1 G1' (Heap.le.refl _) E1 hS fun a' w' G2 hl E' S' => ⟨_, G2, hl, ⟨hW.1.trans hl, ?_⟩, fun d hd => by cases hd; exact E'.get _ _ rfl, E'.defers, rfl⟩
      show (bif f 8 then _ else _)
      rw [h8]
      exact S'
    · intro a1 w1 G1' f hcl hf hon hW E1 hv
      have h8 : f 8 = false := by
        cases h : f 8 with
        | false => rfl
        | true => exact absurd (show f 6 = true from hcl 8 _ rfl h 6 rfl) (by rw [hf]; simp)
      have hS : St w0 G K0 G1' w1 [bkB B b a, Ce, Cm, Cr] := by have := hW.2; rw [h8] at this; exact this
      obtain ⟨v0, hv0, e0⟩ := hv 5 82 _ (hon 5 rfl) rfl rfl
      have e0' : v0 = _ := e0
      subst e0'
      have hg1 : Gl G1' := @Gl.up G3 G1' ⟨hW.1⟩ g.up
      refine o_callM (A := []) (B := [bkB B b a, Ce, Cm, Cr]) (C := []) (E1.add hv0) rfl (hS.perm (by simp)) rfl rfl (by kernel_rfl) (f_entry ws A c (fun x hx => by have := hwl x hx; omega) G1' hg1 ((hR.up (B := G3)).le hW.1) (M0 := [bkB B b a, Ce, Cm, Cr]) w1 (hS.perm (by simp))) (fun v G2 C' w' a' S' hl hr E' => ?_) (fun cc G2 C' w' S' hl hr => ?_)
      · obtain ⟨Ms', rfl, rfl, hok, rfl⟩ := hr
        refine ⟨_, G2, hl, ⟨hW.1.trans hl, ?_⟩, fun d hd => by cases hd; exact E'.get _ _ rfl, E'.defers, hok, rfl⟩
        show (bif f 8 then _ else _)
        rw [h8]
        exact S'.perm (by simp)
      · obtain ⟨rfl, e, ⟨hbad, rfl⟩, rfl⟩ := hr
        exact aft_panic (kpT (R0 := [bkB B b a, Ce, Cm, Cr]) (E := fun e => e = bad10) hQ (fun e he => ⟨by rw [hrow, hr1, if_neg (by rw [hbad]; simp)], he⟩) _ G2 a1 w' ⟨hW.1.trans hl⟩ rfl E1 (S'.perm (by simp)))
    · intro a1 w1 G1' f hcl hf hon hW E1 hv
      have h8 : f 8 = false := by
        cases h : f 8 with
        | false => rfl
        | true => exact absurd (show f 7 = true from hcl 8 _ rfl h 7 rfl) (by rw [hf]; simp)
      have hS : St w0 G K0 G1' w1 [bkB B b a, Ce, Cm, Cr] := by have := hW.2; rw [h8] at this; exact this
      obtain ⟨v0, hv0, hok, e0⟩ := hv 6 83 _ (hon 6 rfl) rfl rfl
      subst e0
      refine (r_lit (K := kEnt) [entX ws] rfl rfl rfl (cs := (entCells (entX ws)).toArray) (by kernel_rfl) ⟨rfl, rfl⟩).run _ [] a1 w1 G1' (Heap.le.refl _) (E1.add hv0) hS fun a' w' G2 v hl hF E' S' => ?_
      obtain ⟨bb, rfl, hRb⟩ := hF
      refine ⟨_, G2, hl, ⟨hW.1.trans hl, ?_⟩, fun d hd => by cases hd; exact E'.get _ _ rfl, E'.defers, bb, hok, rfl, hRb⟩
      show (bif f 8 then _ else _)
      rw [h8]
      exact S'
    · intro a1 w1 G1' f hcl hf hon hW E1 hv
      have hS : St w0 G K0 G1' w1 [bkB B b a, Ce, Cm, Cr] := by have := hW.2; rw [show f 8 = false from hf] at this; exact this
      obtain ⟨v0, hv0, e0⟩ := hv 4 81 _ (hon 4 rfl) rfl rfl
      have e0' : v0 = _ := e0
      subst e0'
      obtain ⟨v1, hv1, bb, hok, e1, hRb⟩ := hv 7 84 _ (hon 7 rfl) rfl rfl
      subst e1
      refine o_append (ys := [entX ws]) ((E1.add hv0).add hv1) rfl hS (Pk.there .here).fr ((hO.up (G' := G3)).e.le hW.1) rfl rfl (tb_ap inferInstance rfl) hRb kone_ent (by simp only [List.length_cons, List.length_nil]; omega) (by simp only [List.length_cons, List.length_nil]; omega) fun A' c' C' w' a' S' hC' E' => ?_
      refine ⟨_, G1', Heap.le.refl _, ⟨hW.1, ?_⟩, fun d hd => by cases hd; exact E'.get _ _ rfl, E'.defers, trivial⟩
      exact ⟨A', c', C', hok, rfl, hC', S'⟩
    · intro a1 w1 G1' f hle hall hW E1 hv
      have hW2 := hW.2
      rw [show f 8 = true from hall 8 (by decide) (by decide)] at hW2
      obtain ⟨A', c', C', hok, hsl, hC', S'⟩ := hW2
      obtain ⟨v0, hv0, e0⟩ := hv 0 77 _ rfl rfl
      have e0' : v0 = _ := e0
      subst e0'
      haveI : Le1 G3 G1' := ⟨hW.1⟩
      refine W.run ?_ a1 w1 ((E1.add hv0).add hsl) S'
      refine go ?_
      refine w_endT hQ (.cons (.there .here) (.cons .here (.cons .here (.cons .here .nil)))) ⟨{ b with es := b.es ++ [entX ws] }, ⟨A', c', a.Am, a.cm, a.Ar, a.cr⟩, C', Cm, Cr, by rw [hrow, hr1, if_pos hok], rfl, ⟨hC', hO.up.m, hO.up.r⟩⟩ .nil
  have hr1 : ¬ isName ws noted = true := fun e => by have e' : ((ws.getD 0 [] == [110, 97, 109, 101]) && !noted) = true := e; rw [e'] at hc1; cases hc1
  refine go ?_
  refine w_and (y := decide ((ws.length : Int) = 3)) 97 93 rfl (fun h => ?_) (fun h => ?_) ?_
  · refine go ?_; exact w_at
  · refine go ?_; exact w_at
  refine go ?_
  refine w_and (y := !noted) 101 98 rfl (fun h => ?_) (fun h => ?_) ?_
  · refine go ?_; exact w_at
  · refine go ?_; exact w_at
  refine go ?_
  refine w_cond rfl (fun hc2 => ?_) (fun hc2 => ?_)
  · have hr2 : rowW b ws note noted = if momOkB ws = true then some { b with ms := b.ms ++ [⟨okv (parseS (ws.getD 1 [])), okv (parseS (ws.getD 2 []))⟩] } else none := by unfold rowW; rw [if_neg hr1, if_pos (show isTime ws noted = true from hc2)]
    have h3 : ws.length = 3 := by
      simp only [Bool.and_eq_true, decide_eq_true_eq] at hc2
      omega
    have l1 := hwl _ (cnt_at (l := ws) (i := 1) (by omega))
    have l2 := hwl _ (cnt_at (l := ws) (i := 2) (by omega))
    refine go ?_
    refine w_stp (p_call rfl rfl rfl (c_ParseN (ws.getD 1 []) (by omega) _)) ?_
    refine go ?_
    refine w_stp (p_call rfl rfl rfl (c_ParseN (ws.getD 2 []) (by omega) _)) ?_
    refine go ?_
    refine w_and (y := decide (erv (parseS (ws.getD 2 [])) = 0)) 121 118 rfl (fun h => ?_) (fun h => ?_) ?_
    · refine go ?_; exact w_at
    · refine go ?_; exact w_at
    refine go ?_
    refine w_callX rfl rfl rfl (f_must _ _) .nil (kpT hQ ?_) fun v G4 Ms _ hr => ?_
    · rintro e ⟨h, rfl⟩
      refine ⟨?_, rfl⟩
      rw [hrow, hr2, if_neg (by unfold momOkB; rw [h]; simp)]
    obtain ⟨rfl, h5⟩ := hr
    refine go ?_
    refine w_stp (p_build (cs := (momCells ⟨okv (parseS (ws.getD 1 [])), okv (parseS (ws.getD 2 []))⟩).toArray) rfl rfl (by kernel_rfl)) ?_
    refine w_push (K := kMom) ⟨okv (parseS (ws.getD 1 [])), okv (parseS (ws.getD 2 []))⟩ rfl rfl rfl rfl (cs := (momCells ⟨okv (parseS (ws.getD 1 [])), okv (parseS (ws.getD 2 []))⟩).toArray) (by kernel_rfl) rfl rfl (by simp) hO.m inferInstance (.there (.there .here)) rfl kone_mom (by omega) fun b2 A5 c5 C5 G5 _ hO5 => ?_
    refine go ?_
    refine w_endT hQ (.cons (.there .here) (.cons (.there .here) (.cons .here (.cons .here .nil)))) ⟨{ b with ms := b.ms ++ [⟨okv (parseS (ws.getD 1 [])), okv (parseS (ws.getD 2 []))⟩] }, ⟨a.Ae, a.ce, A5, c5, a.Ar, a.cr⟩, Ce, C5, Cr, by rw [hrow, hr2, if_pos (show momOkB ws = true from h5)], rfl, ⟨hO.up.e, hO5, hO.up.r⟩⟩ .nil
  have hr2 : ¬ isTime ws noted = true := fun e => by
    have e' : (((ws.getD 0 [] == [116, 105, 109, 101]) && decide ((ws.length : Int) = 3)) && !noted) = true := e
    rw [e'] at hc2; cases hc2
  refine go ?_
  refine w_and (y := decide ((ws.length : Int) = 2)) 41 37 rfl (fun h => ?_) (fun h => ?_) ?_
  · refine go ?_; exact w_at
  · refine go ?_; exact w_at
  refine go ?_
  refine w_and (y := noted) 44 42 rfl (fun h => ?_) (fun h => ?_) ?_
  · refine go ?_; exact w_at
  · refine go ?_; exact w_at
  refine go ?_
  refine w_callX rfl rfl rfl (f_must _ _) .nil (kpT hQ ?_) fun v G4 Ms _ hr => ?_
  · rintro e ⟨h, rfl⟩
    refine ⟨?_, rfl⟩
    rw [hrow]
    unfold rowW
    rw [if_neg hr1, if_neg hr2, if_neg (fun e => by rw [show isNote ws noted = false from h] at e; cases e)]
  obtain ⟨rfl, h4⟩ := hr
  have hr3 : rowW b ws note noted = if remOkB ws = true then some { b with rs := b.rs ++ [⟨okv (countS (ws.getD 1 []) 2147483647), note⟩] } else none := by unfold rowW; rw [if_neg hr1, if_neg hr2, if_pos (show isNote ws noted = true from h4)]
  have h2l : ws.length = 2 := by
    simp only [Bool.and_eq_true, decide_eq_true_eq] at h4
    omega
  have l1 := hwl _ (cnt_at (l := ws) (i := 1) (by omega))
  refine go ?_
  refine w_stp (p_call rfl rfl rfl (c_CountN (ws.getD 1 []) 2147483647 (by decide) (by omega) _)) ?_
  refine go ?_
  refine w_callX rfl rfl rfl (f_must _ _) .nil (kpT hQ ?_) fun v G5 Ms _ hr => ?_
  · rintro e ⟨h, rfl⟩
    refine ⟨?_, rfl⟩
    rw [hrow, hr3, if_neg (fun e => by rw [show remOkB ws = false from h] at e; cases e)]
  obtain ⟨rfl, h5⟩ := hr
  refine go ?_
  refine w_stp (p_build (cs := (remCells ⟨okv (countS (ws.getD 1 []) 2147483647), note⟩).toArray) rfl rfl (by kernel_rfl)) ?_
  refine w_push (K := kRem) ⟨okv (countS (ws.getD 1 []) 2147483647), note⟩ rfl rfl rfl rfl (cs := (remCells ⟨okv (countS (ws.getD 1 []) 2147483647), note⟩).toArray) (by kernel_rfl) rfl rfl (by simp) hO.r inferInstance (.there (.there (.there .here))) rfl kone_rem (by omega) fun b2 A5 c5 C5 G6 _ hO5 => ?_
  refine go ?_
  refine w_endT hQ (.cons (.there .here) (.cons (.there .here) (.cons (.there .here) (.cons .here .nil)))) ⟨{ b with rs := b.rs ++ [⟨okv (countS (ws.getD 1 []) 2147483647), note⟩] }, ⟨a.Ae, a.ce, a.Am, a.cm, A5, c5⟩, Ce, Cm, C5, by rw [hrow, hr3, if_pos (show remOkB ws = true from h5)], rfl, ⟨hO.up.e, hO.up.m, hO5⟩⟩ .nil
end
end Go.Proofs.YtngoaapgdfohjaaGreatDoor.T27
