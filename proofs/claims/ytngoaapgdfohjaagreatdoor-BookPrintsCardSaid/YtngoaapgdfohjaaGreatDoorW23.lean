/- Own text. -/
import Derived.Test.YtngoaapgdfohjaaGreatDoorW22
set_option linter.unusedVariables false
set_option linter.unusedSimpArgs false
set_option maxRecDepth 100000
set_option maxHeartbeats 4000000
namespace Go.Proofs.YtngoaapgdfohjaaGreatDoor.T27
open Go Go.Proofs.YtngoaapgdfohjaaGreatDoor.X Go.Proofs Go.Proofs.YtngoaapgdfohjaaGreatDoor.T28 Go.Proofs.YtngoaapgdfohjaaGreatDoor.TS Go.Proofs.YtngoaapgdfohjaaGreatDoor.TK
/-! ## The law: any book is printed as the document says; a right one is parsed from its print -/
theorem itoa40 {n : Int} (h : I64 n) : (Lib.itoa n).length ≤ 40 := by
  have := printV_len (v := ⟨1, n, []⟩) h
  have e : printV ⟨1, n, []⟩ = Lib.itoa n := by
    unfold printV
    rw [if_neg (by simp [rightV]), if_neg (by simp), if_pos rfl]
  rwa [e] at this
theorem linesB_small {b : Book} (h : BkR b) (s : SmallG b) : (linesB b).length ≤ 100 ∧ ∀ l ∈ linesB b, l.length ≤ 300 := by
  have hk := keys_len b.pol
  have h1 := s.e
  have h2 := s.m
  have h3 := s.r
  refine ⟨by simp only [linesB, List.length_append, List.length_cons, List.length_map]; omega, fun l hl => ?_⟩
  simp only [linesB, List.mem_append, List.mem_cons, List.mem_map] at hl
  rcases hl with (rfl | ⟨k, hk, rfl⟩) | ⟨x, hx, rfl⟩ | ⟨x, hx, rfl⟩ | ⟨x, hx, rfl⟩
  · decide
  · have := (sLine_plain h.p hk).2.1; omega
  · have e := h.e x hx
    have a1 := letter_len x.dom
    have a2 := printV_len e.nw
    have a3 := printV_len e.rw'
    have := congrArg List.length (entL_eq x)
    simp only [entL, List.length_append, List.length_cons, List.length_nil] at this
    omega
  · have a1 := itoa40 (h.m x hx).1
    have a2 := itoa40 (h.m x hx).2
    have := congrArg List.length (momL_eq x)
    simp only [momL, List.length_append, List.length_cons, List.length_nil] at this
    omega
  · have a1 := itoa40 (n := x.event) (by have := (h.r x hx).1; exact ⟨by omega, by omega⟩)
    have a2 := (h.r x hx).2.2
    have := congrArg List.length (remL_eq x)
    simp only [remL, List.length_append, List.length_cons, List.length_nil] at this
    omega
theorem openS_small {b : Book} (h : BkR b) (s : SmallG b) : (openS b).length ≤ 30100 := by
  obtain ⟨h1, h2⟩ := linesB_small h s
  rw [openS_eq h]
  have := flat_len (f := fun x : Bs => x ++ [10]) (m := 301) (linesB b) fun x hx => by have := h2 x hx; simp only [List.length_append, List.length_cons, List.length_nil]; omega
  have h3 : (linesB b).length * 301 ≤ 100 * 301 := Nat.mul_le_mul_right _ h1
  omega
/-- Where a sealed text of a right book is cut. -/
theorem sealed_take {b : Book} (h : BkR b) (key : List Int) : (openS b ++ sealS key (openS b)).take (cutN (openS b ++ sealS key (openS b))) = openS b := by
  obtain ⟨s0, hs⟩ := flat_nl (linesB b) (by simp [linesB])
  rw [← openS_eq h] at hs
  rw [sealS_eq]
  have hc : cutN (openS b ++ (sealW ++ (encR (macR key (byts (openS b))) ++ [10]))) = (openS b).length := by rw [hs]; exact cut_at (encR_ok (macR_oc key _)).2.2
  rw [hc, List.take_left']
  rfl
theorem sealed_small {b : Book} (h : BkR b) (s : SmallG b) (key : List Int) : (openS b ++ sealS key (openS b)).length ≤ 1000000 ∧ ((linesS ((openS b ++ sealS key (openS b)).take (cutN (openS b ++ sealS key (openS b))))).1.length ≤ 1600 ∧ ∀ x ∈ (linesS ((openS b ++ sealS key (openS b)).take (cutN (openS b ++ sealS key (openS b))))).1, x.length ≤ 1600) := by
  have h1 := openS_small h s
  obtain ⟨h2, h3⟩ := linesB_small h s
  rw [sealed_take h]
  have hl : linesS (openS b) = (linesB b, 0) := by rw [openS_eq h]; exact linesS_of (linesB_no h)
  rw [hl]
  refine ⟨by rw [List.length_append, seal_len]; omega, by dsimp only; omega, fun x hx => by have := h3 x hx; omega⟩
theorem print_small {b : Book} (h : bookB b = true → BkR b) (s : SmallG b) (key : List Int) : (printB key b).length ≤ 1000000 ∧ ((linesS ((printB key b).take (cutN (printB key b)))).1.length ≤ 1600 ∧ ∀ x ∈ (linesS ((printB key b).take (cutN (printB key b)))).1, x.length ≤ 1600) := by
  unfold printB
  by_cases hb : bookB b = true
  · rw [if_pos hb]
    exact sealed_small (h hb) s key
  · rw [if_neg hb]
    have e : (linesS (([] : Bs).take (cutN []))).1 = [] := by rw [List.take_nil]; rfl
    rw [e]
    exact ⟨Nat.zero_le _, Nat.zero_le _, fun x hx => by cases hx⟩
section
variable {P : Program} {N : Nat} {D : List Deferred} {w0 : World} {G0 : Heap} {K0 : List Nat} {ops : Array Oper} {G : Heap} {L : List (Nat × Value)} {M : List Chunk} {d : Nat} {ty : TypeId} {pos : String} {af : Array Edge} {x y : Operand}
theorem p_neB {t t' : Nat} {r r' : Bool} (hN : Nat.blt d N = true) (hx : ev L x = some (.bool r)) (hy : ev L y = some (.bool r')) (hu : P.underlying t = some .bool) : Stp P N D w0 G0 K0 ops G L M ⟨some d, .binOp .neq t x y t', ty, pos, af, none⟩ d (.bool (!(r == r'))) := Stp.pure fun Q rest a w G2 hl2 E S k => o_neB E hN hx hy hu k
end
section
attribute [local irreducible] parseB bookB printB BK0
theorem law_BookPrints (b : Book) (a : Bk) (key : List Int) (ho : Oc key) (A : Option Addr) (c : Nat) (hc : key.length ≤ c) (hc2 : key.length ≤ 9223372036854775807) (G : Heap) (g : Gl G) (hB : RdG G b a) (hR : Rd (Knd.int .u8) G A key) : FnP Tryz.prog 6 [vB b a, .slice A key.length c] G (.bool true) := by
  refine fnP_in Tryz.func6 rfl Tryz.ntmps6 rfl fun w0 Q0 hQ => ?_
  refine go ?_; intro B2
  refine go ?_
  refine w_stp (p_call rfl rfl rfl (c_wakes29 _ g.up)) ?_
  refine go ?_
  refine go ?_
  refine w_call rfl rfl rfl (c_greatG b a key.length A c _ hB.up) fun v G1 _ hr => ?_
  obtain ⟨t, rfl, ht⟩ := hr
  refine go ?_
  refine w_cond rfl (fun h => ?_) (fun h => ?_)
  · refine go ?_
    exact w_ret hQ rfl
  obtain ⟨hs, hk⟩ := ht h
  have hb := hB.small hs
  have hsm := hs.small
  have hps := print_small (key := key) (fun h => hb.right h) hs
  have hpp : bookB b = true → (parseB key (printB key b)).1 = b ∧ (parseB key (printB key b)).2 = 0 := fun h => by rw [parse_prints h (hb.right h) key ho]; exact ⟨rfl, rfl⟩
  refine go ?_
  refine w_stp (p_call rfl rfl rfl (c_BPrint b a key ho A c _ g.up hb.up hsm hR.up hc (by omega))) ?_
  generalize hpr : printB key b = t at hps hpp ⊢
  refine go ?_
  refine w_dt 12 (by kernel_rfl) ?_
  refine dg ?_
  refine .cons (p_call rfl rfl rfl (c_BRight b a _ g.up hb.up)) (dg ?_)
  refine .cons (p_call rfl rfl rfl (c_BRightR b a _ hb.up)) (dg ?_)
  refine .cons (p_neB rfl rfl rfl (by kernel_rfl)) ?_
  rw [beq_self_eq_true]
  refine dg ?_
  refine .cons (p_on rfl rfl rfl (p_call rfl rfl rfl (c_BPrintR b a key ho A c _ hb.up hsm hR.up (by omega)))) ?_
  rw [hpr]
  refine dg ?_
  refine go ?_
  refine w_cond rfl (fun h => ?_) (fun h => ?_)
  · simp at h
  refine go ?_
  refine w_call rfl rfl rfl (f_Parse t key ho A c hps.1 hps.2 _ g.up hR.up hc (by omega)) fun v G2 _ hr => ?_
  obtain ⟨a2, rfl, hRB, hSm⟩ := hr
  generalize (parseB key t).2 = cd at hpp ⊢
  generalize (parseB key t).1 = b2 at hpp hRB hSm ⊢
  refine go ?_; intro B5
  refine go ?_; intro B6
  refine go ?_
  refine w_stp (p_call rfl rfl rfl (c_BRightR b a _ hb.up)) ?_
  cases hbb : bookB b with
  | false =>
    refine go ?_
    exact w_ret hQ rfl
  | true =>
    obtain ⟨rfl, rfl⟩ := hpp hbb
    refine go ?_
    refine w_stp (p_on rfl rfl rfl (p_build (cs := #[.int .i64 0, .int .i64 0]) rfl rfl (by kernel_rfl))) ?_
    refine w_stp (p_on rfl rfl rfl (p_eqF (a := 0) (b := 0) (c := 0) (e := 0) rfl rfl rfl rfl)) ?_
    rw [decide_eq_true (rfl : (0 : Int) = 0)]
    refine go ?_
    refine w_stp (p_on rfl rfl rfl (p_call rfl rfl rfl (c_SameBook b2 b2 a a2 _ hb.up hRB.up))) ?_
    rw [decide_eq_true (rfl : b2 = b2)]
    refine go ?_
    exact w_ret hQ rfl
end
end Go.Proofs.YtngoaapgdfohjaaGreatDoor.T27
