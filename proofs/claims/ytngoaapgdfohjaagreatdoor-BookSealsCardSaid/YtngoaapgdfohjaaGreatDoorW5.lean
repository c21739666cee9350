/- Own text. -/
import Derived.Test.YtngoaapgdfohjaaGreatDoorT30
import Derived.Test.YtngoaapgdfohjaaGreatDoorW4
set_option linter.unusedVariables false
set_option linter.unusedSimpArgs false
set_option maxRecDepth 100000
set_option maxHeartbeats 4000000
namespace Go.Proofs.YtngoaapgdfohjaaGreatDoor.T27
open Go Go.Proofs.YtngoaapgdfohjaaGreatDoor.X Go.Proofs Go.Proofs.YtngoaapgdfohjaaGreatDoor.T28 Go.Proofs.YtngoaapgdfohjaaGreatDoor.TS Go.Proofs.YtngoaapgdfohjaaGreatDoor.TK
/-! ## A policy's text -/
theorem BldUp {A B : Heap} [h : LeT A B] {b : Nat} {t : Bs} {C : Chunk} (k : TB.BldT A b t C) : TB.BldT B b t C := Bld.le h.le k
def domL (i : Nat) : Bs := domW.getD i []
def lineA (i : Nat) (r : Rul) : Bs := (domL i ++ [32]) ++ wayW.getD r.way.toNat []
theorem said_eq {i : Nat} {r : Rul} (hi : i < 5) (h : ruledB (i : Int) r = true) : saidS (i : Int) r = if r.way = 2 then lineA i r ++ ([32] ++ Lib.itoa r.size) else lineA i r := by
  have hc : i = 0 ∨ i = 1 ∨ i = 2 ∨ i = 3 ∨ i = 4 := by omega
  obtain ⟨w, n, rfl, hw, hn⟩ := ruled_nat h
  have hw2 : w = 0 ∨ w = 1 ∨ w = 2 ∨ w = 3 := by omega
  unfold saidS lineA domL
  rcases hw2 with rfl | rfl | rfl | rfl <;> rcases hc with rfl | rfl | rfl | rfl | rfl <;> first | rfl | (simp [nameS, domW, wayW])
theorem way_rng {d : Int} {r : Rul} (h : ruledB d r = true) : 0 ≤ r.way ∧ r.way < 5 := by
  obtain ⟨w, n, rfl, hw, hn⟩ := ruled_nat h
  exact ⟨by simp only []; omega, by simp only []; omega⟩
theorem wayL (i : Nat) : (wayW.getD i []).length ≤ 7 := by
  unfold wayW
  rcases i with _ | _ | _ | _ | _ | i <;> simp
theorem domLl (i : Nat) : (domL i).length ≤ 6 := by
  unfold domL domW
  rcases i with _ | _ | _ | _ | _ | i <;> simp
theorem way_at {x : Int} (h : 0 ≤ x ∧ x < 5) : (wayW.map str)[x.toNat * 1]? = some (str (wayW.getD x.toNat [])) := by
  have h5 : x.toNat < wayW.length := by show _ < 5; omega
  rw [Nat.mul_one, List.getElem?_map, List.getD_eq_getElem?_getD, List.getElem?_eq_getElem h5]
  rfl
theorem dom_at {i : Nat} (h : i < 5) : (domW.map str)[i * 1]? = some (str (domL i)) := by
  have h5 : i < domW.length := h
  unfold domL
  rw [Nat.mul_one, List.getElem?_map, List.getD_eq_getElem?_getD, List.getElem?_eq_getElem h5]
  rfl
def tlA (p : Pol) : Bs := (((([116, 105, 109, 101, 32] ++ wayW.getD p.time.toNat []) ++ [10, 110, 111, 116, 101, 32]) ++ wayW.getD p.note.toNat []) ++ [10])
theorem tl_eq {p : Pol} (hp : rightB p = true) : tailS p = (tlA p ++ (if p.loose = true then [108, 111, 111, 115, 101, 10] else [])) ++ (if p.force = true then [102, 111, 114, 99, 101, 10] else []) := by
  obtain ⟨h1, h2⟩ := right_time hp
  unfold tailS tlA
  have e1 : sLo ++ [10] = ([108, 111, 111, 115, 101, 10] : Bs) := rfl
  have e2 : sFo ++ [10] = ([102, 111, 114, 99, 101, 10] : Bs) := rfl
  rw [e1, e2]
  congr 2
  rcases h1 with h1 | h1 <;> rcases h2 with h2 | h2 <;> rw [h1, h2] <;> rfl
theorem acc_a {p : Pol} {i : Nat} {r : Rul} (hi : i < 5) (hr : ruledB (i : Int) r = true) (he : sLine p i = saidS (i : Int) r) (h2 : r.way = 2) : ((accS p i ++ lineA i r) ++ ([32] ++ Lib.itoa r.size)) ++ [10] = accS p (i + 1) := by
  rw [acc_step, he, said_eq hi hr, if_pos h2, List.append_assoc (accS p i)]
theorem acc_b {p : Pol} {i : Nat} {r : Rul} (hi : i < 5) (hr : ruledB (i : Int) r = true) (he : sLine p i = saidS (i : Int) r) (h2 : ¬ r.way = 2) : (accS p i ++ lineA i r) ++ [10] = accS p (i + 1) := by
  rw [acc_step, he, said_eq hi hr, if_neg h2]
attribute [local irreducible] accS saidS domW wayW
theorem c_PrintP (p : Pol) (G : Heap) (g : Gl G) : FnP Tryz.prog 88 [vP p] G (str (printR p)) := by
  refine fnP_in Tryz.func88 rfl Tryz.ntmps88 rfl fun w0 Q0 hQ => ?_
  refine go ?_; intro B1
  refine go ?_
  refine w_stp (p_call rfl rfl rfl (c_RightP p _)) ?_
  refine go ?_
  refine w_cond rfl (fun h1 => ?_) (fun h1 => ?_)
  · have hp : rightB p = false := by simpa using h1
    refine go ?_
    refine w_ret hQ ?_
    unfold printR
    rw [if_neg (by rw [hp]; simp)]; rfl
  have hp : rightB p = true := by simpa using h1
  have hsz := right_size hp
  refine go ?_
  intro b
  have hB0 : TB.BldT G b [] [(b, Arr 123 [.pointer none, .slice none 0 0])] := Bld.new
  have htm := right_time hp
  refine go ?_
  refine w_loop (fun x : Nat × Chunk => [(11, .int .i64 (x.1 : Int))]) (fun x => [x.2, [(B1, Arr 50 (polCells p))]]) (fun x G' => x.1 ≤ 5 ∧ TB.BldT G' b (accS p x.1) x.2) (fun x => 5 - x.1) (0, [(b, Arr 123 [.pointer none, .slice none 0 0])]) ⟨by omega, by unfold accS; exact hB0⟩ ?_
  rintro ⟨i, C⟩ G1 _ ⟨hi, hB⟩
  dsimp only at hi hB ⊢
  have hal := acc_len hp i hi
  have gd : CellsAt G1 1 0 (domW.map str) := g.dom.up
  have gw : CellsAt G1 2 0 (wayW.map str) := g.ways.up
  refine go ?_
  refine w_cd rfl (fun h3 => ?_) (fun h3 => ?_)
  · have hi5 : i < 5 := by omega
    have hr : ruledB (i : Int) (ruleAt p i) = true := right_rule hp hi5
    have he : sLine p i = saidS (i : Int) (ruleAt p i) := by unfold sLine; rw [if_neg (by omega), if_neg (by omega), if_neg (by omega), if_neg (by omega)]
    have hwr := way_rng hr
    have hl1 := domLl i
    have hl2 := wayL (ruleAt p i).way.toNat
    have hlA : (lineA i (ruleAt p i)).length ≤ 14 := by unfold lineA; simp only [List.length_append, List.length_cons, List.length_nil]; omega
    have hA := fun h2 => acc_a (p := p) hi5 hr he h2
    have hBb := fun h2 => acc_b (p := p) hi5 hr he h2
    have hs64 : I64 (ruleAt p i).size := by
      obtain ⟨w, n, e, _, hn⟩ := ruled_nat hr
      rw [e]; exact ⟨by simp only []; omega, by simp only []; omega⟩
    have hit := Lib.itoa_length_le (ruleAt p i).size hs64.1 hs64.2
    have hc : i = 0 ∨ i = 1 ∨ i = 2 ∨ i = 3 ∨ i = 4 := by omega
    generalize hrr : ruleAt p i = r at *
    rcases hc with rfl | rfl | rfl | rfl | rfl
    all_goals
      refine go ?_
      refine w_stp (p_ixVA rfl rfl rfl (by simp) rfl) ?_
      have hrr' : _ = r := hrr
      refine w_as 14 (.agg #[.int .i64 r.way, .int .i64 r.size]) rfl (by rw [← hrr']; rfl) ?_
      refine go ?_; intro B5
      refine go ?_
      refine w_dt 9 (by kernel_rfl) ?_
      refine dg ?_
      refine .cons (p_ldIx rfl rfl rfl gd (by infer_instance) (dom_at (by omega))) (dg ?_)
      refine .cons (p_cat rfl rfl rfl (by simp only [List.length_cons, List.length_nil]; omega)) (dg ?_)
      refine .cons (p_ldIx rfl rfl rfl gw (by infer_instance) (way_at hwr)) (dg ?_)
      refine .cons (p_cat rfl rfl rfl (by simp only [List.length_append, List.length_cons, List.length_nil]; omega)) (dg ?_)
      refine go ?_
      refine w_callM rfl rfl rfl (f_WS b _ (lineA _ r) C _ hB (by omega)) (.cons (.there .here) .nil) fun v G2 Ms _ hv => ?_
      obtain ⟨rfl, rfl, C1, rfl, hB1⟩ := hv
      refine go ?_
      refine w_cd rfl (fun h4 => ?_) (fun h4 => ?_)
      · refine go ?_
        refine w_stp (p_call rfl rfl rfl (c_Num r.size hs64 _ g.up)) ?_
        refine go ?_
        refine w_stp (p_cat rfl rfl rfl (by simp only [List.length_cons, List.length_nil]; omega)) ?_
        refine go ?_
        refine w_callM rfl rfl rfl (f_WS b _ ([32] ++ Lib.itoa r.size) C1 _ hB1 (by simp only [List.length_append, List.length_cons, List.length_nil]; omega)) (.cons .here .nil) fun v G3 Ms _ hv => ?_
        obtain ⟨rfl, rfl, C2, rfl, hB2⟩ := hv
        refine go ?_
        refine w_callM rfl rfl rfl (f_WB b _ 10 C2 _ hB2 (by simp only [List.length_append, List.length_cons, List.length_nil]; omega)) (.cons .here .nil) fun v G4 Ms _ hv => ?_
        obtain ⟨rfl, rfl, C3, rfl, hB3⟩ := hv
        refine go ?_
        rw [hA h4] at hB3
        exact w_again (_ + 1, C3) ⟨by first | decide | (dsimp only; omega), hB3⟩ (by first | decide | (dsimp only; omega) | simp)
      · refine go ?_
        refine w_callM rfl rfl rfl (f_WB b _ 10 C1 _ hB1 (by simp only [List.length_append, List.length_cons, List.length_nil]; omega)) (.cons .here .nil) fun v G4 Ms _ hv => ?_
        obtain ⟨rfl, rfl, C3, rfl, hB3⟩ := hv
        refine go ?_
        rw [hBb h4] at hB3
        exact w_again (_ + 1, C3) ⟨by first | decide | (dsimp only; omega), hB3⟩ (by first | decide | (dsimp only; omega) | simp)
  · obtain rfl : i = 5 := by omega
    have ht0 : 0 ≤ p.time ∧ p.time < 5 := by omega
    have hn0 : 0 ≤ p.note ∧ p.note < 5 := by omega
    have hl1 := wayL p.time.toNat
    have hl2 := wayL p.note.toNat
    have hlT : (tlA p).length ≤ 30 := by unfold tlA; simp only [List.length_append, List.length_cons, List.length_nil]; omega
    refine go ?_
    refine w_dt 12 (by kernel_rfl) ?_
    refine dg ?_
    refine .cons (p_ldIx rfl rfl rfl gw (by infer_instance) (way_at ht0)) (dg ?_)
    repeat (refine .cons (p_cat rfl rfl rfl (by simp only [List.length_append, List.length_cons, List.length_nil]; omega)) (dg ?_))
    refine .cons (p_ldIx rfl rfl rfl gw (by infer_instance) (way_at hn0)) (dg ?_)
    repeat (refine .cons (p_cat rfl rfl rfl (by simp only [List.length_append, List.length_cons, List.length_nil]; omega)) (dg ?_))
    refine go ?_
    refine w_callM rfl rfl rfl (f_WS b _ (tlA p) C _ hB (by omega)) (.cons .here .nil) fun v G2 Ms _ hv => ?_
    obtain ⟨rfl, rfl, C1, rfl, hB1⟩ := hv
    have he := print_eq hp
    rw [tl_eq hp, ← List.append_assoc, ← List.append_assoc] at he
    refine go ?_
    refine w_cd rfl (fun h4 => ?_) (fun h4 => ?_)
    · rw [if_pos h4] at he
      refine go ?_
      refine w_callM rfl rfl rfl (f_WS b _ [108, 111, 111, 115, 101, 10] C1 _ hB1 (by simp only [List.length_append, List.length_cons, List.length_nil]; omega)) (.cons .here .nil) fun v G3 Ms _ hv => ?_
      obtain ⟨rfl, rfl, C2, rfl, hB2⟩ := hv
      refine go ?_
      refine w_cd rfl (fun h5 => ?_) (fun h5 => ?_)
      · rw [if_pos h5] at he
        refine go ?_
        refine w_callM rfl rfl rfl (f_WS b _ [102, 111, 114, 99, 101, 10] C2 _ hB2 (by simp only [List.length_append, List.length_cons, List.length_nil]; omega)) (.cons .here .nil) fun v G3 Ms _ hv => ?_
        obtain ⟨rfl, rfl, C3, rfl, hB3⟩ := hv
        refine go ?_
        refine w_callM rfl rfl rfl (f_BS b _ C3 _ hB3) (.cons .here .nil) fun v G3 Ms _ hv => ?_
        subst hv
        refine go ?_
        refine w_ret hQ ?_
        rw [he]; rfl
      · rw [if_neg (by rw [h5]; simp), List.append_nil] at he
        refine go ?_
        refine w_callM rfl rfl rfl (f_BS b _ C2 _ hB2) (.cons .here .nil) fun v G3 Ms _ hv => ?_
        subst hv
        refine go ?_
        refine w_ret hQ ?_
        rw [he]; rfl
    · rw [if_neg (by rw [h4]; simp), List.append_nil] at he
      refine go ?_
      refine w_cd rfl (fun h5 => ?_) (fun h5 => ?_)
      · rw [if_pos h5] at he
        refine go ?_
        refine w_callM rfl rfl rfl (f_WS b _ [102, 111, 114, 99, 101, 10] C1 _ hB1 (by simp only [List.length_append, List.length_cons, List.length_nil]; omega)) (.cons .here .nil) fun v G3 Ms _ hv => ?_
        obtain ⟨rfl, rfl, C3, rfl, hB3⟩ := hv
        refine go ?_
        refine w_callM rfl rfl rfl (f_BS b _ C3 _ hB3) (.cons .here .nil) fun v G3 Ms _ hv => ?_
        subst hv
        refine go ?_
        refine w_ret hQ ?_
        rw [he]; rfl
      · rw [if_neg (by rw [h5]; simp), List.append_nil] at he
        refine go ?_
        refine w_callM rfl rfl rfl (f_BS b _ C1 _ hB1) (.cons .here .nil) fun v G3 Ms _ hv => ?_
        subst hv
        refine go ?_
        refine w_ret hQ ?_
        rw [he]; rfl
end Go.Proofs.YtngoaapgdfohjaaGreatDoor.T27
