/- Own text. -/
import Derived.Test.YtngoaapgdfohjaaGreatDoorV1
import Derived.Test.YtngoaapgdfohjaaGreatDoorW8
set_option linter.unusedVariables false
set_option linter.unusedSimpArgs false
set_option maxRecDepth 100000
set_option maxHeartbeats 4000000
namespace Go.Proofs.YtngoaapgdfohjaaGreatDoor.T27
open Go Go.Proofs.YtngoaapgdfohjaaGreatDoor.X Go.Proofs Go.Proofs.YtngoaapgdfohjaaGreatDoor.T28 Go.Proofs.YtngoaapgdfohjaaGreatDoor.TS Go.Proofs.YtngoaapgdfohjaaGreatDoor.TK
/-! ## A book read, walked -/
theorem c_JoinN (xs : List Bs) (A : Option Addr) (c : Nat) (G : Heap) (hR : Rd Knd.s G A xs) (hc : xs.length ≤ c) (hl : xs.length ≤ 140737488355328) (hj : (Lib.join xs [10]).length ≤ 140737488355328) : FnP Tryz.prog 102 [.slice A xs.length c, str [10]] G (str (Lib.join xs [10])) := fun w0 hG => by
  have em : (xs.map fun l => (⟨l.toArray⟩ : ByteArray)).map (·.data.toList) = xs := by rw [List.map_map]; exact List.map_id _
  rcases hR with rfl | ⟨b, o, rfl, h⟩
  · exact calls_same hG (Tryz.strings_Join_none A c ⟨#[10]⟩ w0)
  · have hcl := strs_at hG h
    by_cases hx : xs = []
    · subst hx
      exact calls_same hG (Tryz.strings_Join_none _ c ⟨#[10]⟩ w0)
    have hpos := List.length_pos_iff.2 hx
    have hbk : b < w0.heap.size := by
      have := hcl 0 _ (List.getElem?_eq_getElem hpos)
      unfold World.cell? at this
      cases hh : w0.heap[b]? with
      | none => simp [hh] at this
      | some o => exact (Array.getElem?_eq_some_iff.1 hh).1
    have := Tryz.strings_Join b o c (xs.map fun l => ⟨l.toArray⟩) ⟨#[10]⟩ w0 (fun j x hj => by
      rw [List.getElem?_map] at hj
      cases hq : xs[j]? with
      | none => simp [hq] at hj
      | some u =>
        rw [hq] at hj
        cases hj
        exact hcl j u hq) hbk (by simpa using hl) (by simpa using hc) (by rw [em]; exact hj)
    rw [em, List.length_map] at this
    exact calls_below hG this
theorem flatS_len {m : Nat} : ∀ l : List Bs, (∀ x ∈ l, x.length ≤ m) → (l.flatMap (· ++ [10])).length ≤ l.length * (m + 1)
  | [], _ => by simp
  | x :: l, h => by
    have h1 := h x List.mem_cons_self
    have h2 := flatS_len l fun y hy => h y (List.mem_cons_of_mem _ hy)
    rw [List.flatMap_cons, List.length_append, List.length_cons, Nat.add_mul, List.length_append, List.length_singleton]
    omega
theorem drop8 {l : List Bs} {i : Nat} (hi : i < l.length) : ruledN (l.drop i) = if ((l.getD i [] == sLo) || (l.getD i [] == sFo)) = true then ruledN (l.drop (i + 1)) + 1 else 0 := by
  rw [List.drop_eq_getElem_cons hi, List.getD_eq_getElem?_getD, List.getElem?_eq_getElem hi]
  rfl
section
attribute [local irreducible] parseP openS bookB polT rowS
theorem f_read (s : Bs) (hsl : s.length ≤ 4294967280) (hL : (linesS s).1.length ≤ 1600 ∧ ∀ x ∈ (linesS s).1, x.length ≤ 1600) (G : Heap) (g : Gl G) :
    FnT Tryz.prog 60 [str s] G [] TF (fun v G' Ms => Ms = [] ∧ ∃ b a, readS s = some b ∧ v = vB b a ∧ RdB G' b a ∧ Small b) (fun e => readS s = none ∧ e = bad10) := by
  refine fnT_in Tryz.func60 rfl Tryz.ntmps60 rfl fun w0 K0 Q0 hQ => ?_
  obtain ⟨hL1, hL2⟩ := hL
  refine go ?_; intro B2
  refine go ?_
  refine w_call rfl rfl rfl (c_Split s _ g hsl) fun v G1 _ hr => ?_
  obtain ⟨A, c, rfl, hc, hR⟩ := hr
  have hrd : readS s = if (linesS s).2 = 0 then readL (linesS s).1 s else none := rfl
  have hcf := code_fail (linesS s).2
  generalize TL.code8 (linesS s).2 = cd at hcf ⊢
  generalize (linesS s).2 = nn at hrd hcf ⊢
  generalize (linesS s).1 = l at hL1 hL2 hc hR hrd ⊢
  refine go ?_; intro B4
  refine go ?_
  refine w_and (y := decide (8 ≤ (l.length : Int))) 22 18 rfl (fun h => ?_) (fun h => ?_) ?_
  · refine go ?_; exact w_at
  · refine go ?_; exact w_at
  refine go ?_
  refine w_and (y := l.getD 0 [] == ttl) 28 23 rfl (fun h => ?_) (fun h => ?_) ?_
  · have h0 : 0 < l.length := by
      simp only [Bool.and_eq_true, decide_eq_true_eq] at h
      omega
    refine go ?_; exact w_at
  · refine go ?_; exact w_at
  refine go ?_
  refine w_callX rfl rfl rfl (f_must _ _) .nil (kpT hQ ?_) fun v G2 Ms _ hr => ?_
  · rintro e ⟨h, rfl⟩
    refine ⟨?_, rfl⟩
    rw [hrd]
    split
    · rename_i h0
      unfold readL
      rw [if_neg]
      rintro ⟨e1, _⟩
      rw [decide_eq_true (hcf.2 h0), Bool.true_and] at h
      rw [show headOk l = false from h] at e1
      cases e1
    · rfl
  obtain ⟨rfl, h1⟩ := hr
  have hh : nn = 0 ∧ headOk l = true := by
    rw [Bool.and_assoc, Bool.and_eq_true, decide_eq_true_eq] at h1
    exact ⟨hcf.1 h1.1, h1.2⟩
  rw [if_pos hh.1] at hrd
  have h8 : 8 ≤ l.length := by
    have := hh.2
    unfold headOk at this
    simp only [Bool.and_eq_true, decide_eq_true_eq] at this
    omega
  refine go ?_
  refine w_as 5 (.int .i64 ((8 : Nat) : Int)) rfl rfl ?_
  refine w_loop (fun n : Nat => [(5, .int .i64 (n : Int))]) (fun _ => [[(B4, Cells 59 [(0, .int .i64 cd), (1, .int .i64 nn)])], bkB B2 BK0 AK0]) (fun n _ => 8 ≤ n ∧ n ≤ l.length ∧ n + ruledN (l.drop n) = nRul l) (fun n => l.length - n) 8 ⟨by omega, h8, rfl⟩ ?_
  rintro n G3 _ ⟨hn8, hnl, hnr⟩
  refine go ?_
  refine w_and (y := (l.getD n [] == sLo) || (l.getD n [] == sFo)) 47 34 rfl (fun h => ?_) (fun h => ?_) ?_
  · have hnl' : n < l.length := by have := of_decide_eq_true h; omega
    refine go ?_
    refine w_or (y := l.getD n [] == sFo) 46 40 rfl (fun h => ?_) (fun h => ?_) ?_
    · refine go ?_; exact w_at
    · refine go ?_; exact w_at
    refine go ?_; exact w_at
  · refine go ?_; exact w_at
  refine go ?_
  refine w_cond rfl (fun h => ?_) (fun h => ?_)
  · rw [Bool.and_eq_true, decide_eq_true_eq] at h
    have hnl' : n < l.length := by omega
    rw [drop8 hnl', if_pos h.2] at hnr
    refine go ?_
    exact w_again (n + 1) ⟨by omega, by omega, by omega⟩ (by omega)
  have hnn : n = nRul l := by
    rcases Nat.lt_or_ge n l.length with h2 | h2
    · rw [drop8 h2, if_neg (by rw [decide_eq_true (show (n : Int) < (l.length : Int) by omega), Bool.true_and] at h; rw [h]; simp)] at hnr
      omega
    · rw [List.drop_of_length_le h2] at hnr
      exact hnr
  have hpn : (l.drop 1).take (n - 1) ≠ [] := by
    intro e
    have := congrArg List.length e
    rw [List.length_take, List.length_drop, List.length_nil] at this
    omega
  have hpT : Lib.join ((l.drop 1).take (n - 1)) [10] ++ [10] = polT l (nRul l) := by rw [join_nl _ hpn, ← hnn]; unfold polT; rfl
  have hpl : ((l.drop 1).take (n - 1)).length = n - 1 := by rw [List.length_take, List.length_drop]; omega
  have hfl := flatS_len (m := 1600) ((l.drop 1).take (n - 1)) fun x hx => hL2 x (List.mem_of_mem_drop (List.mem_of_mem_take hx))
  rw [← join_nl _ hpn, hpl, List.length_append, List.length_singleton] at hfl
  have hjl : (Lib.join ((l.drop 1).take (n - 1)) [10]).length ≤ 2561600 := by
    have : (n - 1) * 1601 ≤ 1600 * 1601 := Nat.mul_le_mul_right _ (by omega)
    omega
  have hRp : Rd Knd.s G1 (slAt A c 1 1) ((l.drop 1).take (n - 1)) := (sl_lo (K := Knd.s) hR (k := 1) (by omega) hc).take _
  refine go ?_
  refine w_stp (p_slLH (lo := 1) (hi := n) rfl rfl rfl rfl rfl (by omega) (by omega)) ?_
  refine w_as 53 (.slice (slAt A c 1 1) ((l.drop 1).take (n - 1)).length (c - 1)) rfl (by rw [hpl]) ?_
  refine w_stp (p_call rfl rfl rfl (c_JoinN ((l.drop 1).take (n - 1)) _ (c - 1) _ hRp.up (by omega) (by omega) (by omega))) ?_
  refine w_stp (p_cat rfl rfl rfl (by simp only [List.length_cons, List.length_nil]; omega)) ?_
  refine w_as 55 (str (polT l (nRul l))) rfl (by rw [hpT]) ?_
  refine w_stp (p_call rfl rfl rfl (c_PolParse (polT l (nRul l)) (by rw [← hpT, List.length_append, List.length_singleton]; omega) _ g.up)) ?_
  refine go ?_; intro B6
  refine go ?_
  refine w_callX rfl rfl rfl (f_must _ _) .nil (kpT hQ ?_) fun v G4 Ms _ hr => ?_
  · rintro e ⟨h, rfl⟩
    refine ⟨?_, rfl⟩
    rw [hrd]
    unfold readL
    rw [if_neg]
    rintro ⟨_, e2⟩
    rw [e2] at h
    cases h
  obtain ⟨rfl, h5⟩ := hr
  have hp0 : (parseP (polT l (nRul l))).2 = 0 := by
    have := of_decide_eq_true h5
    unfold failC at this
    split at this
    · assumption
    · cases this
  have hrd2 : readS s = match rowsS (bkP (parseP (polT l (nRul l))).1) (l.drop n) with
    | none => none
    | some b => if endOk b s = true then some b else none := by rw [hrd]; unfold readL; rw [if_pos ⟨hh.2, hp0⟩, hnn]; rfl
  generalize (parseP (polT l (nRul l))).1 = pp at hrd2 ⊢
  refine go ?_
  refine w_stp (p_build (cs := (bookC (bkP pp) AK0).toArray) rfl rfl (by kernel_rfl)) ?_
  refine go ?_; intro B7
  refine go ?_
  refine w_stp (p_slLo (k := n) rfl rfl rfl rfl (by omega)) ?_
  refine w_as 67 (.slice (slAt A c n 1) (l.drop n).length (c - n)) rfl (by rw [List.length_drop]) ?_
  have hRd : Rd Knd.s G1 (slAt A c n 1) (l.drop n) := sl_lo (K := Knd.s) hR hnl hc
  have hdl : (l.drop n).length ≤ 1592 := by rw [List.length_drop]; omega
  have hdx : ∀ x ∈ l.drop n, x.length ≤ 1600 := fun x hx => hL2 x (List.mem_of_mem_drop hx)
  generalize hld : l.drop n = ld at hrd2 hRd hdl hdx ⊢
  refine go ?_
  refine w_nilO (K := kRem) 82 fun hOr => ?_
  refine w_nilO (K := kMom) 85 fun hOm => ?_
  refine w_nilO (K := kEnt) 70 fun hOe => ?_
  refine w_loop (α := Nat × Book × Bk × Chunk × Chunk × Chunk) (fun x => [(69, .int .i64 (x.1 : Int))]) (fun x => [bkB B7 x.2.1 x.2.2.1, x.2.2.2.1, x.2.2.2.2.1, x.2.2.2.2.2, bkB B2 BK0 AK0]) (fun x G' => x.1 ≤ ld.length ∧ OwB G' x.2.1 x.2.2.1 x.2.2.2.1 x.2.2.2.2.1 x.2.2.2.2.2 ∧ BkW x.2.1 x.1 ∧ rowsS (bkP pp) ld = rowsS x.2.1 (ld.drop x.1)) (fun x => ld.length - x.1) (0, bkP pp, AK0, [], [], []) ⟨by omega, ⟨hOe, hOm, hOr⟩, BkW.zero _ _, rfl⟩ ?_ (hm := .cons (.there (.there (.there .here))) (.cons .here (.cons .here (.cons .here (.cons (.there (.there .here)) .nil)))))
  rintro ⟨i, b, a, Ce, Cm, Cr⟩ G5 _ ⟨hi, hO, hBW, hrs⟩
  dsimp only at hi hO hBW hrs ⊢
  have hbl := hBW.len
  refine go ?_
  refine w_cd rfl (fun h3 => ?_) (fun h3 => ?_)
  · have hi' : i < ld.length := by omega
    have hxl := hdx _ (cnt_at hi')
    refine go ?_
    refine w_callX rfl rfl rfl (f_row b a (ld.getD i []) B7 Ce Cm Cr _ g.up hO (by omega) ⟨by omega, by omega, by omega⟩) (.cons .here (.cons .here (.cons .here (.cons .here .nil)))) (kpT hQ ?_) fun v G6 Ms _ hr => ?_
    · rintro e ⟨h, rfl⟩
      exact ⟨by rw [hrd2, hrs, rowsS_step hi', h], rfl⟩
    obtain ⟨b', a', Ce', Cm', Cr', hrow, rfl, hO'⟩ := hr
    refine go ?_
    exact w_again (i + 1, b', a', Ce', Cm', Cr') ⟨by dsimp only; omega, hO', (row_w hBW hxl hrow).1, by rw [hrs, rowsS_step hi', hrow]⟩ (by dsimp only; omega)
  · obtain rfl : i = ld.length := by omega
    rw [List.drop_length] at hrs
    have hrd3 : readS s = if endOk b s = true then some b else none := by rw [hrd2, hrs]; rfl
    refine go ?_
    refine w_stillO hO.e (.refl _) (.there .here) fun G6 _ hRe hce => ?_
    refine w_stillO hO.m (by infer_instance) (.there .here) fun G7 _ hRm hcm => ?_
    refine w_stillO hO.r (by infer_instance) (.there .here) fun G8 _ hRr hcr => ?_
    have hRB : RdB G8 b a := ⟨hRe.up, hRm.up, hRr, hce, hcm, hcr, by omega, by omega, by omega, fun x hx => (hBW.ew x hx).1, hBW.mw, fun x hx => ⟨(hBW.rw' x hx).1, by have := (hBW.rw' x hx).2; omega⟩⟩
    have hSm : Small b := hBW.small (by omega)
    have hol := open_len hRB hSm
    refine go ?_
    refine w_stp (p_call rfl rfl rfl (c_BRight b a _ g.up hRB)) ?_
    refine go ?_
    refine w_and (y := openS b == s) 83 78 rfl (fun h => ?_) (fun h => ?_) ?_
    · refine go ?_
      refine w_stp (p_on rfl rfl h (p_call rfl rfl rfl (c_open b a _ g.up hRB hSm))) ?_
      refine go ?_; exact w_at
    · refine go ?_; exact w_at
    refine w_callX rfl rfl rfl (f_must _ _) .nil (kpT hQ ?_) fun v G9 Ms _ hr => ?_
    · rintro e ⟨h, rfl⟩
      exact ⟨by rw [hrd3, if_neg (fun e => by rw [show endOk b s = false from h] at e; cases e)], rfl⟩
    obtain ⟨rfl, h9⟩ := hr
    refine go ?_
    exact w_retT hQ .nil ⟨rfl, b, a, by rw [hrd3, if_pos (show endOk b s = true from h9)], rfl, hRB.up, hSm⟩
end
end Go.Proofs.YtngoaapgdfohjaaGreatDoor.T27
