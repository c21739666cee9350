/- Own text. -/
import Derived.Test.YtngoaapgdfohjaaGreatDoorW22
set_option linter.unusedVariables false
set_option linter.unusedSimpArgs false
set_option maxRecDepth 100000
set_option maxHeartbeats 4000000
namespace Go.Proofs.YtngoaapgdfohjaaGreatDoor.T27
open Go Go.Proofs.YtngoaapgdfohjaaGreatDoor.X Go.Proofs Go.Proofs.YtngoaapgdfohjaaGreatDoor.T28 Go.Proofs.YtngoaapgdfohjaaGreatDoor.TS Go.Proofs.YtngoaapgdfohjaaGreatDoor.TK
/-! ## The law: any book is printed as the document says; a right one is parsed from its print -/
theorem itoa40 {n : Int} (h : I64 n) : (Lib.itoa n).length ≤ 40 := by
  have := printV_len (v := ⟨1, n, []⟩) h
  have e : printV ⟨1, n, []⟩ = Lib.itoa n := by
    unfold printV
    rw [if_neg (by simp [rightV]), if_neg (by simp), if_pos rfl]
  rwa [e] at this
theorem linesB_small {b : Book} (h : BkR b) (s : SmallG b) : (linesB b).length ≤ 100 ∧ ∀ l ∈ linesB b, l.length ≤ 300 := by
  have hk := keys_len b.pol
  have h1 := s.e
  have h2 := s.m
  have h3 := s.r
  refine ⟨by simp only [linesB, List.length_append, List.length_cons, List.length_map]; omega, fun l hl => ?_⟩
  simp only [linesB, List.mem_append, List.mem_cons, List.mem_map] at hl
  rcases hl with (rfl | ⟨k, hk, rfl⟩) | ⟨x, hx, rfl⟩ | ⟨x, hx, rfl⟩ | ⟨x, hx, rfl⟩
  · decide
  · have := (sLine_plain h.p hk).2.1; omega
  · have e := h.e x hx
    have a1 := letter_len x.dom
    have a2 := printV_len e.nw
    have a3 := printV_len e.rw'
    have := congrArg List.length (entL_eq x)
    simp only [entL, List.length_append, List.length_cons, List.length_nil] at this
    omega
  · have a1 := itoa40 (h.m x hx).1
    have a2 := itoa40 (h.m x hx).2
    have := congrArg List.length (momL_eq x)
    simp only [momL, List.length_append, List.length_cons, List.length_nil] at this
    omega
  · have a1 := itoa40 (n := x.event) (by have := (h.r x hx).1; exact ⟨by omega, by omega⟩)
    have a2 := (h.r x hx).2.2
    have := congrArg List.length (remL_eq x)
    simp only [remL, List.length_append, List.length_cons, List.length_nil] at this
    omega
theorem openS_small {b : Book} (h : BkR b) (s : SmallG b) : (openS b).length ≤ 30100 := by
  obtain ⟨h1, h2⟩ := linesB_small h s
  rw [openS_eq h]
  have := flat_len (f := fun x : Bs => x ++ [10]) (m := 301) (linesB b) fun x hx => by have := h2 x hx; simp only [List.length_append, List.length_cons, List.length_nil]; omega
  have h3 : (linesB b).length * 301 ≤ 100 * 301 := Nat.mul_le_mul_right _ h1
  omega
/-- Where a sealed text of a right book is cut. -/
theorem sealed_take {b : Book} (h : BkR b) (key : List Int) : (openS b ++ sealS key (openS b)).take (cutN (openS b ++ sealS key (openS b))) = openS b := by
  obtain ⟨s0, hs⟩ := flat_nl (linesB b) (by simp [linesB])
  rw [← openS_eq h] at hs
  rw [sealS_eq]
  have hc : cutN (openS b ++ (sealW ++ (encR (macR key (byts (openS b))) ++ [10]))) = (openS b).length := by rw [hs]; exact cut_at (encR_ok (macR_oc key _)).2.2
  rw [hc, List.take_left']
  rfl
theorem sealed_small {b : Book} (h : BkR b) (s : SmallG b) (key : List Int) : (openS b ++ sealS key (openS b)).length ≤ 1000000 ∧ ((linesS ((openS b ++ sealS key (openS b)).take (cutN (openS b ++ sealS key (openS b))))).1.length ≤ 1600 ∧ ∀ x ∈ (linesS ((openS b ++ sealS key (openS b)).take (cutN (openS b ++ sealS key (openS b))))).1, x.length ≤ 1600) := by
  have h1 := openS_small h s
  obtain ⟨h2, h3⟩ := linesB_small h s
  rw [sealed_take h]
  have hl : linesS (openS b) = (linesB b, 0) := by rw [openS_eq h]; exact linesS_of (linesB_no h)
  rw [hl]
  refine ⟨by rw [List.length_append, seal_len]; omega, by dsimp only; omega, fun x hx => by have := h3 x hx; omega⟩
section
variable {P : Program} {N : Nat} {D : List Deferred} {w0 : World} {G0 : Heap} {K0 : List Nat} {ops : Array Oper} {G : Heap} {L : List (Nat × Value)} {M : List Chunk} {d : Nat} {ty : TypeId} {pos : String} {af : Array Edge} {x y : Operand}
end
section
attribute [local irreducible] parseB bookB printB BK0
end
end Go.Proofs.YtngoaapgdfohjaaGreatDoor.T27
