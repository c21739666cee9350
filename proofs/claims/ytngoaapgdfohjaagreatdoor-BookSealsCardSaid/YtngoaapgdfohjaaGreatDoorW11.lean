/- Own text. -/
import Derived.Test.YtngoaapgdfohjaaGreatDoorW10
set_option linter.unusedVariables false
set_option linter.unusedSimpArgs false
set_option maxRecDepth 100000
set_option maxHeartbeats 8000000
namespace Go.Proofs.YtngoaapgdfohjaaGreatDoor.T27
open Go Go.Proofs.YtngoaapgdfohjaaGreatDoor.X Go.Proofs Go.Proofs.YtngoaapgdfohjaaGreatDoor.T28 Go.Proofs.YtngoaapgdfohjaaGreatDoor.TS Go.Proofs.YtngoaapgdfohjaaGreatDoor.TK
/-! ## A policy read -/
theorem words_pos {s : Bs} (h : (wordsS s).2 = 0) : 0 < (wordsS s).1.length := by
  unfold wordsS at h ⊢
  split at h
  · cases h
  · rename_i hn
    rw [if_neg hn]
    exact List.length_pos_iff.2 (splitS_ne 32 s)
theorem code_fail (n : Int) : TL.code8 n = 0 ↔ n = 0 := by
  unfold TL.code8
  split
  · rename_i h; exact ⟨fun _ => h, fun _ => rfl⟩
  · rename_i h; exact ⟨fun h2 => absurd h2 (by decide), fun h2 => absurd h2 h⟩
theorem sd_at {sd : List Bool} {k : Nat} (h : k < sd.length) : (sd.map Value.bool)[0 + k * 1]? = some (.bool (sd.getD k false)) := by
  rw [Nat.mul_one, Nat.zero_add, List.getElem?_map, List.getElem?_eq_getElem h, List.getD_eq_getElem?_getD, List.getElem?_eq_getElem h]
  rfl
theorem sd_set {sd : List Bool} {k : Nat} : (sd.map Value.bool).set (0 + k * 1) (.bool true) = (sd.set k true).map Value.bool := by
  rw [Nat.mul_one, Nat.zero_add, List.map_set]
attribute [local irreducible] lineP doS wordK kS
theorem c_PolParse (s : Bs) (hl : s.length ≤ 4294967280) (G : Heap) (g : Gl G) : FnP Tryz.prog 101 [str s] G (.tuple #[vP (parseP s).1, .agg #[.int .i64 (failC (parseP s).2), .int .i64 (parseP s).2]]) := by
  refine fnP_in Tryz.func101 rfl Tryz.ntmps101 rfl fun w0 Q0 hQ => ?_
  refine go ?_; intro B2
  refine go ?_; intro B3
  refine go ?_
  refine w_call rfl rfl rfl (c_Split s _ g hl) fun v G1 _ hr => ?_
  obtain ⟨A, c, rfl, hc, hR⟩ := hr
  refine go ?_; intro B5
  refine go ?_
  refine w_cd rfl (fun h1 => ?_) (fun h1 => ?_)
  · have hn : ¬ (linesS s).2 = 0 := fun e => h1 ((code_fail _).2 e)
    have hpp : parseP s = (P0, (linesS s).2) := by unfold parseP; rw [if_neg hn]
    refine go ?_
    refine w_det 5 (fun f => [[(B5, Cells 59 [(0, .int .i64 (TL.code8 (linesS s).2)), (1, .int .i64 (linesS s).2)])], [(B3, Cells 59 [(0, .int .i64 0), (1, .int .i64 0)])], pcB B2 P0]) (M := [[(B5, Cells 59 [(0, .int .i64 (TL.code8 (linesS s).2)), (1, .int .i64 (linesS s).2)])], [(B3, Cells 59 [(0, .int .i64 0), (1, .int .i64 0)])], pcB B2 P0]) rfl (fun f hf => rfl) (by kernel_rfl) ?_
    refine deg ?_
    refine .cons (fun f => rfl) rfl (fun f => p_build (cs := (polCells P0).toArray) rfl rfl (by kernel_rfl)) (deg ?_)
    refine .cons (fun f => rfl) rfl (fun f => p_build (cs := #[.int .i64 6, .int .i64 (linesS s).2]) rfl rfl (by kernel_rfl)) (deg ?_)
    refine .eff rfl (fun f h1 h2 => e_stA rfl rfl rfl (.there (.there (.here .here))) rfl rfl ?_) (.nil ?_)
    · exact .cons .here (.cons (.there rfl .here) (.cons (.there rfl (.there rfl .here)) (.cons (.there rfl (.there rfl (.there rfl .here))) (.cons (.there rfl (.there rfl (.there rfl (.there rfl .here)))) (.cons (.there rfl (.there rfl (.there rfl (.there rfl (.there rfl .here))))) (.cons (.there rfl (.there rfl (.there rfl (.there rfl (.there rfl (.there rfl .here)))))) (.cons (.there rfl (.there rfl (.there rfl (.there rfl (.there rfl (.there rfl (.there rfl .here))))))) (.cons (.there rfl (.there rfl (.there rfl (.there rfl (.there rfl (.there rfl (.there rfl (.there rfl .here)))))))) (.cons (.there rfl (.there rfl (.there rfl (.there rfl (.there rfl (.there rfl (.there rfl (.there rfl (.there rfl .here))))))))) (.cons (.there rfl (.there rfl (.there rfl (.there rfl (.there rfl (.there rfl (.there rfl (.there rfl (.there rfl (.there rfl .here)))))))))) (.cons (.there rfl (.there rfl (.there rfl (.there rfl (.there rfl (.there rfl (.there rfl (.there rfl (.there rfl (.there rfl (.there rfl .here))))))))))) (.cons (.there rfl (.there rfl (.there rfl (.there rfl (.there rfl (.there rfl (.there rfl (.there rfl (.there rfl (.there rfl (.there rfl (.there rfl .here)))))))))))) (.cons (.there rfl (.there rfl (.there rfl (.there rfl (.there rfl (.there rfl (.there rfl (.there rfl (.there rfl (.there rfl (.there rfl (.there rfl (.there rfl .here))))))))))))) .nil)))))))))))))
    intro G3 _
    refine go ?_
    refine w_ret hQ ?_
    rw [hpp, show failC (linesS s).2 = 6 from if_neg hn]; rfl
  have hn : (linesS s).2 = 0 := (code_fail _).1 h1
  have hpp : parseP s = goP 0 (linesS s).1 P0 (List.replicate 9 false) := by unfold parseP; rw [if_pos hn]
  have hll : (linesS s).1.length ≤ 4294967280 := by
    have := linesS_len s
    omega
  refine go ?_; intro B6
  refine go ?_
  refine w_call rfl rfl rfl (f_kinds _ g.up) fun v G2 _ hk => ?_
  obtain ⟨ks, Ak, ck, rfl, hk9, hkc, hRk, hok⟩ := hk
  refine go ?_
  refine w_as 30 (.int .i64 ((9 : Nat) : Int)) rfl (by rw [hk9]) ?_
  refine w_make (n := 9) rfl rfl rfl rfl (by decide) (by decide) fun B8 => ?_
  refine go ?_
  refine w_loop (α := Nat × Pol × List Bool) (fun x => [(34, .int .i64 (x.1 : Int))]) (fun x => [[(B8, Arr 4 (x.2.2.map Value.bool))], pcB B6 x.2.1, [(B5, Cells 59 [(0, .int .i64 (TL.code8 (linesS s).2)), (1, .int .i64 (linesS s).2)])], [(B3, Cells 59 [(0, .int .i64 0), (1, .int .i64 0)])], pcB B2 P0]) (fun x _ => x.1 ≤ (linesS s).1.length ∧ x.2.2.length = 9 ∧ goP 0 (linesS s).1 P0 (List.replicate 9 false) = goP (x.1 : Int) ((linesS s).1.drop x.1) x.2.1 x.2.2) (fun x => (linesS s).1.length - x.1) (0, P0, List.replicate 9 false) ⟨by omega, rfl, rfl⟩ ?_
  rintro ⟨i, P, sd⟩ G3 _ ⟨hi, hsl, hg⟩
  dsimp only at hi hsl hg ⊢
  refine go ?_
  refine w_cd rfl (fun h3 => ?_) (fun h3 => ?_)
  · have hi' : i < (linesS s).1.length := by omega
    have hxl : ((linesS s).1.getD i []).length ≤ 4294967280 := by
      have := lines_mem (s := s) (cnt_at hi')
      omega
    have hst := goP_step (i := (i : Int)) (P := P) (sd := sd) (h := hi') (x := (linesS s).1.getD i []) (by rw [List.getD_eq_getElem?_getD, List.getElem?_eq_getElem hi']; rfl)
    refine go ?_
    refine w_call rfl rfl rfl (c_Words ((linesS s).1.getD i []) hxl _ g.up) fun v G4 _ hr => ?_
    obtain ⟨Aw, cw, rfl, hcw, hRw⟩ := hr
    refine go ?_
    generalize hsx : (linesS s).1.getD i [] = sx at hxl hst hcw hRw ⊢
    have hwl : (wordsS sx).1.length ≤ 4294967281 := by
      have := wordsS_len sx
      omega
    have hlp : lineP sx P sd = kS (decide ((wordsS sx).2 = 0)) (wordsS sx).1 P sd 9 := by unfold lineP; rfl
    refine w_loop (α := Nat × Pol × List Bool × Bool) (fun x => [(13, .bool x.2.2.2), (46, .int .i64 (x.1 : Int))]) (fun x => [[(B8, Arr 4 (x.2.2.1.map Value.bool))], pcB B6 x.2.1, [(B5, Cells 59 [(0, .int .i64 (TL.code8 (linesS s).2)), (1, .int .i64 (linesS s).2)])], [(B3, Cells 59 [(0, .int .i64 0), (1, .int .i64 0)])], pcB B2 P0]) (fun x _ => x.1 ≤ 9 ∧ x.2.2.1.length = 9 ∧ kS (decide ((wordsS sx).2 = 0)) (wordsS sx).1 P sd x.1 = x.2) (fun x => 9 - x.1) (0, P, sd, false) ⟨by omega, hsl, by unfold kS; rfl⟩ ?_
    rintro ⟨k, P2, sd2, gd2⟩ G5 _ ⟨hk, hs2, hks⟩
    dsimp only at hk hs2 ⊢
    have hhit := fun hc => kS_hit hks hc
    have hmis := fun hc => kS_miss hks hc
    dsimp only at hhit hmis
    refine go ?_
    refine w_cd rfl (fun h4 => ?_) (fun h4 => ?_)
    · have hk' : k < 9 := by rw [hk9] at h4; omega
      have hkk : k < ks.length := by omega
      have hE : CellsAt G2 (aB Ak) (aO Ak + k * 2) (kdCells (ks.getD k KD0)) := hRk.cells KD0 hkk
      obtain ⟨hkw, fk, csk, hef, hgo, hdo⟩ := hok k hkk
      generalize hxk : ks.getD k KD0 = xk at hE hkw hef
      refine go ?_; intro B15
      refine go ?_
      refine w_dB (y := (decide ((wordsS sx).2 = 0) && ((wordsS sx).1.getD 0 [] == xk.w)) && !(sd2.getD k false)) 67 (by kernel_rfl) ?_ ?_
      · refine dg ?_
        cases hb1 : decide ((wordsS sx).2 = 0) with
        | false => refine dg ?_; exact rfl
        | true =>
          have hwp := words_pos (of_decide_eq_true hb1)
          refine dg ?_
          cases hb2 : ((wordsS sx).1.getD 0 [] == xk.w) with
          | false => refine dg ?_; exact rfl
          | true =>
            refine dg ?_
            refine .cons (p_on rfl rfl rfl (p_ldR rfl rfl rfl (.there (.here .here)) (sd_at (sd := sd2) (k := k) (by omega)))) (dg ?_)
            cases hb3 : sd2.getD k false with
            | false => refine dg ?_; exact rfl
            | true => refine dg ?_; exact rfl
      refine go ?_
      refine w_cond rfl (fun hc => ?_) (fun hc => ?_)
      · rw [hkw] at hc
        have hz : (wordsS sx).2 = 0 := by
          simp only [Bool.and_eq_true, decide_eq_true_eq] at hc
          exact hc.1.1
        have hwp := words_pos hz
        refine go ?_
        refine w_stR rfl rfl rfl rfl (.there (.here .here)) (by rw [List.length_map]; omega) ?_
        rw [sd_set]
        refine go ?_
        refine w_dt 4 (by kernel_rfl) ?_
        refine dg ?_
        refine .cons (p_slLo (k := 1) rfl rfl rfl rfl (by omega)) (dg ?_)
        refine w_as 72 (.func (.func fk) #[] csk.toArray) rfl hef ?_
        refine w_as 74 (.slice (slAt Aw cw 1 1) ((wordsS sx).1.drop 1).length (cw - 1)) rfl (by rw [List.length_drop]) ?_
        refine w_callM (g := ⟨hgo⟩) rfl rfl rfl (hdo _ (LeT.le) P2 ((wordsS sx).1.drop 1) _ (cw - 1) B6 (by rw [List.length_drop]; omega) (by rw [List.length_drop]; omega) (fun x hx => by
          have := words_mem (List.mem_of_mem_drop hx)
          omega) (sl_lo (K := Knd.s) hRw.up (k := 1) (by omega) hcw)) (.cons (.there (.there .here)) .nil) fun v G6 Ms _ hv => ?_
        obtain ⟨rfl, rfl⟩ := hv
        refine go ?_
        exact w_again (k + 1, (doS k P2 ((wordsS sx).1.drop 1)).1, sd2.set k true, (doS k P2 ((wordsS sx).1.drop 1)).2) ⟨by dsimp only; omega, by rw [List.length_set]; exact hs2, hhit hc⟩ (by dsimp only; omega)
      · rw [hkw] at hc
        refine go ?_
        exact w_again (k + 1, P2, sd2, gd2) ⟨by dsimp only; omega, hs2, hmis hc⟩ (by dsimp only; omega)
    · obtain rfl : k = 9 := by rw [hk9] at h4; omega
      rw [← hlp] at hks
      rw [hks] at hst
      dsimp only at hst
      refine go ?_
      refine w_cond rfl (fun hb => ?_) (fun hb => ?_)
      · rw [if_neg (by intro e; rw [e] at hb; cases hb)] at hst
        refine go ?_
        refine w_stp (p_build (cs := (polCells P0).toArray) rfl rfl (by kernel_rfl)) ?_
        refine go ?_
        refine w_stp (p_build (cs := #[.int .i64 6, .int .i64 ((i : Int) + 1)]) rfl rfl (by kernel_rfl)) ?_
        refine go ?_
        refine w_ret hQ ?_
        rw [hpp, hg, hst, show failC ((i : Int) + 1) = 6 from if_neg (by omega)]; rfl
      · have hb' : gd2 = true := by simpa using hb
        rw [if_pos hb'] at hst
        refine go ?_
        exact w_again (i + 1, P2, sd2) ⟨by dsimp only; omega, hs2, by rw [hg, hst]; rfl⟩ (by dsimp only; omega)
  · obtain rfl : i = (linesS s).1.length := by omega
    rw [List.drop_length] at hg
    refine go ?_
    refine w_stp (p_build (cs := #[.int .i64 0, .int .i64 0]) rfl rfl (by kernel_rfl)) ?_
    refine go ?_
    refine w_ret hQ ?_
    rw [hpp, hg]; rfl
end Go.Proofs.YtngoaapgdfohjaaGreatDoor.T27
