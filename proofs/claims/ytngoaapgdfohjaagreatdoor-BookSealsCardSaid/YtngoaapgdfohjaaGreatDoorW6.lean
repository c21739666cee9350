/- Own text. -/
import Derived.Test.YtngoaapgdfohjaaGreatDoorW4
import Derived.Test.YtngoaapgdfohjaaGreatDoorY16
set_option linter.unusedVariables false
set_option linter.unusedSimpArgs false
set_option maxRecDepth 100000
set_option maxHeartbeats 4000000
namespace Go.Proofs.YtngoaapgdfohjaaGreatDoor.T27
open Go Go.Proofs.YtngoaapgdfohjaaGreatDoor.X Go.Proofs Go.Proofs.YtngoaapgdfohjaaGreatDoor.T28 Go.Proofs.YtngoaapgdfohjaaGreatDoor.TS Go.Proofs.YtngoaapgdfohjaaGreatDoor.TK
/-! ## What a line of a policy says -/
def wayN (s : Bs) : Nat → Int × Bool
  | 0 => wayS s
  | 1 => if [111, 114, 100, 105, 110, 97, 108] == s then (1, true) else if [107, 101, 121, 101, 100] == s then (2, true) else if [114, 97, 110, 107] == s then (3, true) else if [100, 114, 111, 112] == s then (4, true) else (0, false)
  | 2 => if [107, 101, 121, 101, 100] == s then (2, true) else if [114, 97, 110, 107] == s then (3, true) else if [100, 114, 111, 112] == s then (4, true) else (0, false)
  | 3 => if [114, 97, 110, 107] == s then (3, true) else if [100, 114, 111, 112] == s then (4, true) else (0, false)
  | 4 => if [100, 114, 111, 112] == s then (4, true) else (0, false)
  | _ => (0, false)
theorem way_step (s : Bs) {i : Nat} (hi : i < 5) : wayN s i = if (wayW.getD i [] == s) = true then ((i : Int), true) else wayN s (i + 1) := by
  have hc : i = 0 ∨ i = 1 ∨ i = 2 ∨ i = 3 ∨ i = 4 := by omega
  rcases hc with rfl | rfl | rfl | rfl | rfl <;> rfl
theorem wayW_len : wayW.length = 5 := rfl
theorem w0_rng (s : Bs) : 0 ≤ (wayS s).1 ∧ (wayS s).1 ≤ 4 := by
  unfold wayS
  repeat (split; · exact ⟨by decide, by decide⟩)
  exact ⟨by decide, by decide⟩
attribute [local irreducible] wayW
theorem c_way (s : Bs) (G : Heap) (g : Gl G) : FnP Tryz.prog 170 [str s] G (.tuple #[.int .i64 (wayS s).1, .bool (wayS s).2]) := by
  refine fnP_in Tryz.func170 rfl Tryz.ntmps170 rfl fun w0 Q0 hQ => ?_
  have gw : CellsAt G 2 0 (wayW.map str) := g.ways
  refine go ?_
  refine w_stp (p_ldIA (n := 5) rfl rfl rfl gw (by infer_instance) (by rw [List.length_map, wayW_len])) ?_
  refine go ?_
  refine w_loop (fun i : Nat => [(7, .int .i64 (i : Int))]) (fun _ => []) (fun i _ => i ≤ 5 ∧ wayS s = wayN s i) (fun i => 5 - i) 0 ⟨by omega, rfl⟩ ?_
  rintro i G1 _ ⟨hi, he⟩
  refine go ?_
  refine w_cd rfl (fun h3 => ?_) (fun h3 => ?_)
  · have hi5 : i < 5 := by omega
    refine go ?_
    refine w_stp (p_ixVs rfl rfl rfl ⟨by omega, by rw [wayW_len]; omega⟩) ?_
    refine go ?_
    refine w_cond rfl (fun h => ?_) (fun h => ?_)
    · refine go ?_
      refine w_ret hQ ?_
      rw [he, way_step s hi5, if_pos h]; rfl
    · refine go ?_
      exact w_again (i + 1) ⟨by omega, by rw [he, way_step s hi5, if_neg (by rw [h]; simp)]⟩ (by omega)
  · obtain rfl : i = 5 := by omega
    refine go ?_
    refine w_ret hQ ?_
    rw [he]; rfl
theorem c_one (l : List Bs) (A : Option Addr) (c : Nat) (may : Int) (G : Heap) (g : Gl G) (hR : Rd Knd.s G A l) : FnP Tryz.prog 169 [.slice A l.length c, .int .i64 may] G (.tuple #[.int .i64 (oneS l may).1, .bool (oneS l may).2]) := by
  refine fnP_in Tryz.func169 rfl Tryz.ntmps169 rfl fun w0 Q0 hQ => ?_
  refine go ?_
  refine w_cd rfl (fun h => ?_) (fun h => ?_)
  · refine go ?_
    refine w_ret hQ ?_
    unfold oneS
    rw [if_neg (by omega)]; rfl
  · have hl : l.length = 1 := by omega
    have h0 : 0 < l.length := by omega
    refine go ?_
    refine w_stp (p_call rfl rfl rfl (c_way (l.getD 0 []) _ g)) ?_
    refine go ?_
    refine w_and (y := decide ((wayS (l.getD 0 [])).1 = 0) || decide ((wayS (l.getD 0 [])).1 = may)) 28 20 rfl (fun h => ?_) (fun h => ?_) ?_
    · refine go ?_
      refine w_or (y := decide ((wayS (l.getD 0 [])).1 = may)) 27 23 rfl (fun h => ?_) (fun h => ?_) ?_
      · refine go ?_; exact w_at
      · refine go ?_; exact w_at
      refine go ?_; exact w_at
    · refine go ?_; exact w_at
    refine go ?_
    refine w_ret hQ ?_
    unfold oneS w0S
    rw [if_pos hl]; rfl
end Go.Proofs.YtngoaapgdfohjaaGreatDoor.T27
