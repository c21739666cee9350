/- Histories: plain laws. -/
import Derived.Test.YtiinipcmghhacaaGreatDoorZE1
set_option linter.unusedVariables false
set_option linter.unusedSimpArgs false
namespace Go.Proofs.YtiinipcmghhacaaGreatDoor.T10
open Go Go.Proofs.YtiinipcmghhacaaGreatDoor.X
theorem T.g15 : goFn Tryz.prog 15 = true := by kernel_rfl
theorem T.q36 : flatT Tryz.prog 36 = some [.int .i64, .int .i64] := by kernel_rfl

theorem pcs_app {c : UInt8} {a : Bs} (ha : lst c a = []) : ∀ (n : Nat) (b : Bs), b.length = n → pcs c (a ++ b) = pcs c a ++ pcs c b ∧ lst c (a ++ b) = lst c b := by
  intro n
  induction n with
  | zero =>
    intro b hb
    obtain rfl := List.eq_nil_of_length_eq_zero hb
    simp only [List.append_nil, pcs_nil, lst_nil]
    exact ⟨trivial, ha⟩
  | succ n ih =>
    intro b hb
    have hne : b ≠ [] := by intro e; subst e; cases hb
    have e := List.dropLast_concat_getLast hne
    obtain ⟨h1, h2⟩ := ih b.dropLast (by rw [List.length_dropLast]; omega)
    generalize b.dropLast = b' at e h1 h2
    generalize b.getLast hne = x at e
    rw [← e, ← List.append_assoc]
    by_cases hx : x = c
    · obtain ⟨p1, p2⟩ := snoc_hit (p := a ++ b') hx
      obtain ⟨p3, p4⟩ := snoc_hit (p := b') hx
      rw [p1, p2, p3, p4, h1, h2]
      exact ⟨by rw [List.append_assoc], rfl⟩
    · obtain ⟨p1, p2⟩ := snoc_miss (p := a ++ b') hx
      obtain ⟨p3, p4⟩ := snoc_miss (p := b') hx
      rw [p1, p2, p3, p4, h1, h2]
      exact ⟨rfl, rfl⟩
theorem lines_zero {t : Bs} (h : (linesS t).2 = 0) : lst 10 t = [] := by
  unfold linesS at h
  split at h
  · assumption
  · simp only at h; omega
theorem lines_app {a b : Bs} (ha : (linesS a).2 = 0) : linesS (a ++ b) = if (linesS b).2 = 0 then ((linesS a).1 ++ (linesS b).1, 0) else ([], ((linesS a).1.length : Int) + (linesS b).2) := by
  have h0 := lines_zero ha
  obtain ⟨h1, h2⟩ := pcs_app h0 b.length b rfl
  have ea : (linesS a).1 = pcs 10 a := by unfold linesS; rw [if_pos h0]
  rw [ea]
  unfold linesS
  rw [h1, h2]
  by_cases hb : lst 10 b = []
  · rw [if_pos hb, if_pos hb, if_pos rfl]
  · rw [if_neg hb, if_neg hb, if_neg (by simp only; omega)]
    simp only [List.length_append]
    rw [show ((((pcs 10 a).length + (pcs 10 b).length : Nat) : Int) + 1) = ((pcs 10 a).length : Int) + (((pcs 10 b).length : Int) + 1) by omega]
theorem histG_two : ∀ l : List Bs, (∃ ys : List Evt, ys.length = l.length ∧ ∀ (i : Int) (acc : List Evt), 0 ≤ i → i + (l.length : Int) ≤ 4096 → histG l i acc = (acc ++ ys, 0, 0)) ∨
    ∃ e k : Int, ¬ e = 0 ∧ 1 ≤ k ∧ ∀ (i : Int) (acc : List Evt), 0 ≤ i → i + (l.length : Int) ≤ 4096 → histG l i acc = ([], e, i + k)
  | [] => .inl ⟨[], rfl, fun i acc _ _ => by simp [histG]⟩
  | s :: r => by
    by_cases h : (parseE s).2 = 0
    · rcases histG_two r with ⟨ys, hl, hy⟩ | ⟨e, k, he, hk, hy⟩
      · refine .inl ⟨(parseE s).1 :: ys, by simp [hl], fun i acc h0 h1 => ?_⟩
        simp only [List.length_cons] at h1
        unfold histG
        rw [codeH_few (by omega), if_pos h, hy _ _ (by omega) (by omega)]
        simp
      · refine .inr ⟨e, k + 1, he, by omega, fun i acc h0 h1 => ?_⟩
        simp only [List.length_cons] at h1
        unfold histG
        rw [codeH_few (by omega), if_pos h, hy _ _ (by omega) (by omega)]
        rw [show i + 1 + k = i + (k + 1) by omega]
    · refine .inr ⟨(parseE s).2, 1, h, by omega, fun i acc h0 h1 => ?_⟩
      simp only [List.length_cons] at h1
      unfold histG
      rw [codeH_few (by omega), if_neg h]
theorem histG_app {l2 : List Bs} : ∀ (l1 : List Bs) (i : Int) (acc ys : List Evt), histG l1 i acc = (ys, 0, 0) → histG (l1 ++ l2) i acc = histG l2 (i + (l1.length : Int)) ys
  | [], i, acc, ys, h => by
    simp only [histG, Prod.mk.injEq, and_true] at h
    subst h
    simp
  | s :: r, i, acc, ys, h => by
    unfold histG at h
    split at h
    · rename_i hc
      show (if codeH s i = 0 then histG (r ++ l2) (i + 1) (acc ++ [(parseE s).1]) else ([], codeH s i, i + 1)) = _
      rw [if_pos hc, histG_app r _ _ _ h, show i + 1 + (r.length : Int) = i + ((s :: r).length : Int) by simp only [List.length_cons]; omega]
    · rename_i hc
      simp only [Prod.mk.injEq] at h
      exact absurd h.2.1 hc
theorem hist_joins {a b : Bs} (ha : a.length ≤ 1000) (hb : b.length ≤ 1000) (hF : (histP a).2.1 = 0) :
    (¬ (histP b).2.1 = 0 → (histP (a ++ b)).2.1 = (histP b).2.1 ∧ (histP (a ++ b)).2.2 = (histP b).2.2 + ((histP a).1.length : Int)) ∧
    ((histP b).2.1 = 0 → histP (a ++ b) = ((histP a).1 ++ (histP b).1, 0, 0)) := by
  have hla := linesS_len a
  have hlb := linesS_len b
  have h0 : (linesS a).2 = 0 := by
    by_cases h : (linesS a).2 = 0
    · exact h
    · rw [hist_bad h] at hF; cases hF
  have ea : histP a = histG (linesS a).1 0 [] := if_pos h0
  rcases histG_two (linesS a).1 with ⟨ys, hl, hy⟩ | ⟨e, k, he, hk, hy⟩
  · have e0 := hy 0 [] (by omega) (by omega)
    rw [List.nil_append] at e0
    rw [ea, e0]
    by_cases hz : (linesS b).2 = 0
    · have el : linesS (a ++ b) = ((linesS a).1 ++ (linesS b).1, 0) := by rw [lines_app h0, if_pos hz]
      have eb : histP b = histG (linesS b).1 0 [] := if_pos hz
      have eab : histP (a ++ b) = histG (linesS b).1 ((linesS a).1.length : Int) ys := by
        unfold histP
        rw [el, if_pos rfl]
        simp only
        rw [histG_app _ _ _ _ e0, Int.zero_add]
      rw [eab, eb]
      rcases histG_two (linesS b).1 with ⟨zs, hl2, hy2⟩ | ⟨e, k, he, hk, hy2⟩
      · rw [hy2 0 [] (by omega) (by omega), hy2 _ _ (by omega) (by omega)]
        exact ⟨fun h => absurd rfl h, fun _ => by simp⟩
      · rw [hy2 0 [] (by omega) (by omega), hy2 _ _ (by omega) (by omega)]
        refine ⟨fun _ => ⟨rfl, ?_⟩, fun h => absurd h he⟩
        simp only [hl]
        omega
    · have el : linesS (a ++ b) = ([], ((linesS a).1.length : Int) + (linesS b).2) := by rw [lines_app h0, if_neg hz]
      have hp := lines_pos (t := b)
      have eab : histP (a ++ b) = ([], 2, ((linesS a).1.length : Int) + (linesS b).2) := by
        unfold histP
        rw [el, if_neg (by simp only; omega)]
      rw [eab, hist_bad hz]
      refine ⟨fun _ => ⟨rfl, ?_⟩, fun h => absurd h (show ¬ (2 : Int) = 0 by decide)⟩
      simp only [hl]
      omega
  · have e0 := hy 0 [] (by omega) (by omega)
    rw [ea, e0] at hF
    exact absurd hF he
theorem histG_line : ∀ (l : List Bs) (i : Int) (acc : List Evt), 0 ≤ i → 0 ≤ (histG l i acc).2.2 ∧ (histG l i acc).2.2 ≤ i + (l.length : Int)
  | [], i, acc, h => by show (0 : Int) ≤ 0 ∧ (0 : Int) ≤ _; simp; exact h
  | s :: r, i, acc, h => by
    unfold histG
    split
    · have := histG_line r (i + 1) (acc ++ [(parseE s).1]) (by omega)
      simp only [List.length_cons]
      omega
    · simp only [List.length_cons]; omega
theorem histP_line (t : Bs) : 0 ≤ (histP t).2.2 ∧ (histP t).2.2 ≤ (t.length : Int) + 1 := by
  have h2 := linesS_len t
  unfold histP
  split
  · have := histG_line (linesS t).1 0 [] (by omega)
    omega
  · unfold linesS
    split
    · simp; omega
    · have := pcs_len' 10 t
      simp only; omega
theorem app_sm {x y : List Evt} (h1 : ∀ e ∈ x, EvSm e) (h2 : ∀ e ∈ y, EvSm e) : ∀ e ∈ ([] ++ x) ++ y, EvSm e := by
  intro e he
  simp only [List.nil_append, List.mem_append] at he
  rcases he with h | h
  · exact h1 e h
  · exact h2 e h
/-! `incognito/incognitolaw11.wakes` -/
set_option maxRecDepth 100000 in
set_option maxHeartbeats 4000000 in
theorem c_wakes11  (w0 : World) (G : Heap) (hG : Sub G w0) (m8 : Int) (h8 : CellsAt G 5 0 [.int .i64 m8]) (hg0 : CellsAt G 1 0 [.int .i64 3, .int .i64 1, str []]) (hg1 : CellsAt G 2 0 [.int .i64 3, .int .i64 0, str []]) (hgm : CellsAt G 3 0 [str [], str [114, 101, 103], str [99, 97, 115], str [115, 101, 116], str [109, 97, 112], str [102, 105, 102, 111], str [115, 116, 97, 99, 107], str [108, 111, 99, 107], str [99, 111, 117, 110, 116], str [109, 97, 120], str [111, 109, 97, 112]]) (hgo : CellsAt G 4 0 [str [], str [119, 114, 105, 116, 101], str [114, 101, 97, 100], str [115, 119, 97, 112], str [97, 100, 100], str [100, 101, 108], str [104, 97, 115], str [112, 117, 116], str [103, 101, 116], str [112, 117, 115, 104], str [112, 111, 112], str [116, 97, 107, 101], str [102, 114, 101, 101], str [115, 99, 97, 110]]) (hgn : CellsAt G 0 0 [str [], str [105, 110, 118, 111, 107, 101], str [111, 107], str [102, 97, 105, 108], str [105, 110, 102, 111]]):
  Calls Tryz.prog 11 #[] w0 (Ret w0 G (fun v _ => v = .bool true)) := by
 refine enter Tryz.func11 rfl Tryz.ntmps11 rfl ?_
 intro Q hQ a HE
 have HS := St.start0 hG
 refine sr fun K hK => ?_
 refine rn 1 HE HS ?_; clear HE HS; intro a w HE HS
 apply hK; clear hK K
 refine sr fun K hK => ?_
 refine o_call HE rfl HS rfl rfl T.g15 (c_ParseH [] _ _ HS.sub m8 h8 hg0 hg1 hgm hgo hgn (by first | omega | (simp; done) | (simp; omega))) ?_
 clear HE HS; rintro _ G2 w a HS hle2 ⟨vA2, vc2, rfl, hcp2, hR2⟩ HE
 replace h8 := h8.le hle2
 replace hg0 := hg0.le hle2
 replace hg1 := hg1.le hle2
 replace hgm := hgm.le hle2
 replace hgo := hgo.le hle2
 replace hgn := hgn.le hle2
 refine rn 3 HE HS ?_; clear HE HS; intro a w HE HS
 refine o_allocZ HE rfl HS ?_; clear HE HS; intro B2 w a HS HE
 refine rn 2 HE HS ?_; clear HE HS; intro a w HE HS
 apply hK; clear hK K
 refine sr fun K hK => ?_
 refine o_call HE rfl HS rfl rfl T.g15 (c_ParseH [53, 32, 97, 32, 111, 107] _ _ HS.sub m8 h8 hg0 hg1 hgm hgo hgn (by first | omega | (simp; done) | (simp; omega))) ?_
 clear HE HS; rintro _ G4 w a HS hle4 ⟨vA4, vc4, rfl, hcp4, hR4⟩ HE
 replace h8 := h8.le hle4
 replace hg0 := hg0.le hle4
 replace hg1 := hg1.le hle4
 replace hgm := hgm.le hle4
 replace hgo := hgo.le hle4
 replace hgn := hgn.le hle4
 replace hR2 := hR2.le hle4
 refine rn 3 HE HS ?_; clear HE HS; intro a w HE HS
 refine o_allocZ HE rfl HS ?_; clear HE HS; intro B4 w a HS HE
 refine rn 2 HE HS ?_; clear HE HS; intro a w HE HS
 apply hK; clear hK K
 refine sr fun K hK => ?_
 refine rn 1 HE HS ?_; clear HE HS; intro a w HE HS
 refine o_build (cs := #[.int .i64 0, .int .i64 0]) HE rfl rfl (by kernel_rfl) ?_; clear HE; intro a HE
 refine o_eqA (b := decide (((histP []).2.1) = 0) && (decide (((histP []).2.2) = 0) && true)) HE rfl rfl rfl T.q36 rfl rfl ?_; clear HE; intro a HE
 refine rn 1 HE HS ?_; clear HE HS; intro a w HE HS
 refine cutG 4 20 (.bool ((decide (((histP []).2.1) = 0) && (decide (((histP []).2.2) = 0) && true)) && (decide (((histP []).1.length : Int) = 0)))) HE HS ?_ ?_
 ·refine bsp HE (t := 16) rfl (fun hb6 => ?_) (fun hb6 => ?_)
  ·have hk7 := nm hb6
   refine rn 4 HE HS ?_; clear HE HS; intro a w HE HS
   exact ⟨HS, HE.cutT (by rw [hb6] <;> rfl)⟩
  ·skip
   refine rn 4 HE HS ?_; clear HE HS; intro a w HE HS
   exact ⟨HS, HE.cutT (by rw [hb6] <;> rfl)⟩
 clear HE HS; intro a w HE HS
 refine rn 1 HE HS ?_; clear HE HS; intro a w HE HS
 refine cutG 4 25 (.bool (((decide (((histP []).2.1) = 0) && (decide (((histP []).2.2) = 0) && true)) && (decide (((histP []).1.length : Int) = 0))) && (decide (((histP [53, 32, 97, 32, 111, 107]).2.1) = 2) && (decide (((histP [53, 32, 97, 32, 111, 107]).2.2) = 1) && true)))) HE HS ?_ ?_
 ·refine bsp HE (t := 21) rfl (fun hb8 => ?_) (fun hb8 => ?_)
  ·have hk9 := nm hb8
   refine rn 1 HE HS ?_; clear HE HS; intro a w HE HS
   refine op_on HE rfl rfl hb8 ?_
   refine o_build (cs := #[.int .i64 2, .int .i64 1]) HE rfl rfl (by kernel_rfl) ?_; clear HE; intro a HE
   refine op_on HE rfl rfl hb8 ?_
   refine o_eqA (b := decide (((histP [53, 32, 97, 32, 111, 107]).2.1) = 2) && (decide (((histP [53, 32, 97, 32, 111, 107]).2.2) = 1) && true)) HE rfl rfl rfl T.q36 rfl rfl ?_; clear HE; intro a HE
   refine rn 1 HE HS ?_; clear HE HS; intro a w HE HS
   exact ⟨HS, HE.cutT (by rw [hb8] <;> rfl)⟩
  ·skip
   refine rn 4 HE HS ?_; clear HE HS; intro a w HE HS
   exact ⟨HS, HE.cutT (by rw [hb8] <;> rfl)⟩
 clear HE HS; intro a w HE HS
 refine rn 1 HE HS ?_; clear HE HS; intro a w HE HS
 apply hK; clear hK K
 refine rt hQ HE HS ?_
 show _ = _
 simp only [packed, Value.bool.injEq]
 decide +kernel
end Go.Proofs.YtiinipcmghhacaaGreatDoor.T10
