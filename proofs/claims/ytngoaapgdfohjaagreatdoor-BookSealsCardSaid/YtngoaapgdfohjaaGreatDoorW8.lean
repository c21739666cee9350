/- Own text. -/
import Derived.Test.YtngoaapgdfohjaaGreatDoorW7
set_option linter.unusedVariables false
set_option linter.unusedSimpArgs false
set_option maxRecDepth 100000
set_option maxHeartbeats 4000000
namespace Go.Proofs.YtngoaapgdfohjaaGreatDoor.T27
open Go Go.Proofs.YtngoaapgdfohjaaGreatDoor.X Go.Proofs Go.Proofs.YtngoaapgdfohjaaGreatDoor.T28 Go.Proofs.YtngoaapgdfohjaaGreatDoor.TS Go.Proofs.YtngoaapgdfohjaaGreatDoor.TK
/-! ## A book printed; the law's example; more than a statement takes -/
section
attribute [local irreducible] bookB openS sealS
theorem c_BPrint (b : Book) (a : Bk) (key : List Int) (ho : Oc key) (A : Option Addr) (c : Nat) (G : Heap) (g : Gl G) (h : RdB G b a) (s : Small b) (hR : Rd (Knd.int .u8) G A key) (hc : key.length ≤ c) (hl : key.length ≤ 1000000) :
    FnP Tryz.prog 27 [vB b a, .slice A key.length c] G (str (printB key b)) := by
  refine fnP_in Tryz.func27 rfl Tryz.ntmps27 rfl fun w0 Q0 hQ => ?_
  have hol := open_len h s
  have hsl := seal_len key (openS b)
  refine go ?_; intro B2
  refine go ?_
  refine w_stp (p_call rfl rfl rfl (c_BRight b a _ g h.up)) ?_
  refine go ?_
  refine w_cond rfl (fun h1 => ?_) (fun h1 => ?_)
  · have hp : ¬ bookB b = true := by simpa using h1
    refine go ?_
    refine w_ret hQ ?_
    unfold printB
    rw [if_neg hp]; rfl
  · have hp : bookB b = true := by simpa using h1
    refine go ?_
    refine w_stp (p_call rfl rfl rfl (c_open b a _ g h.up s)) ?_
    refine go ?_
    refine w_stp (p_call rfl rfl rfl (c_SealB key ho A c (openS b) _ g hR.up hc hl (by omega))) ?_
    refine go ?_
    refine w_ret hQ ?_
    unfold printB
    rw [if_pos hp]; rfl
end
def BK0 : Book := ⟨P0, [], [], []⟩
def AK0 : Bk := ⟨none, 0, none, 0, none, 0⟩
def wkS : Bs := [105,110,99,111,103,110,105,116,111,32,98,111,111,107,10,99,108,105,101,110,116,32,107,101,101,112,10,111,98,106,101,99,116,32,107,101,101,112,10,118,97,108,117,101,32,107,101,101,112,10,102,105,101,108,100,32,107,101,101,112,10,111,114,100,101,114,32,107,101,101,112,10,116,105,109,101,32,107,101,101,112,10,110,111,116,101,32,107,101,101,112,10]
theorem rdB0 (G : Heap) : RdB G BK0 AK0 := ⟨.inl rfl, .inl rfl, .inl rfl, Nat.le_refl _, Nat.le_refl _, Nat.le_refl _, by decide, by decide, by decide, by simp [BK0], by simp [BK0], by simp [BK0]⟩
theorem sm0 : Small BK0 := ⟨by decide, by decide, by decide, by simp [BK0], by simp [BK0]⟩
theorem bk0_right : bookB BK0 = true := by decide +kernel
theorem bk0_open : openS BK0 = wkS := by decide +kernel
theorem bk0_print (key : List Int) : printB key BK0 = wkS ++ sealS key wkS := by unfold printB; rw [if_pos bk0_right, bk0_open]
section
attribute [local irreducible] printB sealS
theorem c_wakes29 (G : Heap) (g : Gl G) : FnP Tryz.prog 25 [] G (.bool true) := by
  refine fnP_in Tryz.func25 rfl Tryz.ntmps25 rfl fun w0 Q0 hQ => ?_
  have ho : Oc [] := by intro v hv; cases hv
  refine go ?_
  refine w_stp (p_build (cs := (bookC BK0 AK0).toArray) rfl rfl (by kernel_rfl)) ?_
  refine w_stp (p_call rfl rfl rfl (c_BPrint BK0 AK0 [] ho none 0 _ g (rdB0 _) sm0 (.inl rfl) (Nat.le_refl _) (by decide))) ?_
  refine go ?_
  refine w_stp (p_call rfl rfl rfl (c_SealRB [] ho none 0 wkS _ (.inl rfl) (by decide) (by decide))) ?_
  refine go ?_
  refine w_stp (p_cat rfl rfl rfl (by rw [seal_len]; decide)) ?_
  refine go ?_
  refine w_ret hQ ?_
  rw [bk0_print]
  show Value.bool ((wkS ++ sealS [] wkS) == (wkS ++ sealS [] wkS)) = _
  rw [beq_self_eq_true]
end
structure SmallG (b : Book) : Prop where
  e : b.es.length ≤ 30
  m : b.ms.length ≤ 30
  r : b.rs.length ≤ 30
  ew : ∀ x ∈ b.es, x.name.s.length ≤ 100 ∧ x.real.s.length ≤ 100
  rw' : ∀ x ∈ b.rs, x.note.length ≤ 200
theorem SmallG.small {b : Book} (h : SmallG b) : Small b := ⟨by have := h.e; omega, by have := h.m; omega, by have := h.r; omega, fun x hx => by have := h.ew x hx; omega, fun x hx => by have := h.rw' x hx; omega⟩
end Go.Proofs.YtngoaapgdfohjaaGreatDoor.T27
