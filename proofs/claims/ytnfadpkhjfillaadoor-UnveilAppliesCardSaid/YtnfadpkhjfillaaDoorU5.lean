/- Own text. -/
import Derived.Test.YtnfadpkhjfillaaDoorU4
set_option linter.unusedVariables false
set_option linter.unusedSimpArgs false
set_option maxRecDepth 100000
set_option maxHeartbeats 4000000
namespace Go.Proofs.YtnfadpkhjfillaaDoor.T28
open Go Go.Proofs.YtnfadpkhjfillaaDoor.X
instance : LZ Tryd.prog 39 [(0, .int .i64 0), (1, .int .i64 0)] := ⟨⟨.agg #[.int .i64 0, .int .i64 0], by kernel_rfl, ⟨rfl, rfl, trivial⟩⟩⟩
theorem T.a39 : aggSz Tryd.prog 39 = some 2 := by kernel_rfl
instance : AG Tryd.prog 39 2 := ⟨T.a39⟩
theorem T.g58 : goFn Tryd.prog 58 = true := by kernel_rfl
theorem T.g66 : goFn Tryd.prog 66 = true := by kernel_rfl
theorem T.g67 : goFn Tryd.prog 67 = true := by kernel_rfl
/-! `incognito/pair.all` -/
theorem c_all12 (h : List Evt) (A : Option Addr) (c : Nat) (w0 : World) (G : Heap) (hG : Sub G w0) (hg0 : CellsAt G 0 0 [.int .i64 3, .int .i64 1, str []]) (hg1 : CellsAt G 1 0 [.int .i64 3, .int .i64 0, str []]) (hR : Rd kEvt G A h) (hl : h.length ≤ 1000000000) (hok : ∀ x ∈ h, x.Wf ∧ (rightE x = true → x.out.length ≤ 1000000)):
  Calls Tryd.prog 58 #[.slice A h.length c] w0 (Ret w0 G (fun v _ => ∃ b : Nat, v = .tuple #[.pointer (some ⟨b, 0, none⟩), .agg #[.int .i64 (checkS h).1, .int .i64 (checkS h).2]])) := by
 refine enter Tryd.func58 rfl Tryd.ntmps58 rfl ?_
 intro Q hQ a E
 have S := St.start0 hG
 refine sr fun K hK => ?_
 refine rn 1 E S ?_; clear E S; intro a w E S
 refine o_allocZ E rfl S ?_; clear E S; intro B3 w a S E
 apply hK; clear hK K
 refine sr fun K hK => ?_
 refine rn 2 E S ?_; clear E S; intro a w E S
 replace S := S.nilChunk
 refine o_callM (A := []) (C := []) E rfl S rfl rfl T.g66 (c_begun h.length _ _ S.sub (by omega)) ?_ (fun _ _ _ _ _ _ h => h.elim)
 clear E S; rintro _ G2 _ w a S hle2 ⟨bc2, b12, b22, be2, rfl, rfl⟩ E
 simp only [List.nil_append] at S; replace S := S.unflat; simp only [List.cons_append, List.nil_append] at S
 replace hg0 := hg0.le hle2
 replace hg1 := hg1.le hle2
 replace hR := hR.le hle2
 have oH2 : X.Own (Knd.int .i64) 3 G2 none 0 ([] : List Int) [] := X.Own.nil
 refine rn 1 E S ?_; clear E S; intro a w E S
 apply hK; clear hK K
 refine wp_seq_k (fun K5 hK4 => ?_)
 refine sr fun K hK => ?_
 refine rn 3 E S ?_; clear E S; intro a w E S
 apply hK; clear hK K
 refine wp_block ?_
 replace S := S.front (C := []) (.there (.there (.there .here)))
 replace S := S.turnP (q := MapF Tryd.prog 49 kvV vvI (busyF h 0)) (.there (.there (.here .here))) (fun o ho => ho.turn ((busyF_none h).symm))
 replace S := S.turnP (q := MapF Tryd.prog 49 kvV vvI (lostF h 0)) (.there (.there (.there (.here .here)))) (fun o ho => ho.turn ((lostF_none h).symm))
 refine loop (fun (p : Nat × List Int × List Value) a' w' => ∃ (oAbc23_1 : Option Addr) (ocbc23_1 : Nat) (oCbc23_1 : Chunk), ∃ GL7, Heap.le G2 GL7 ∧ St w0 G [] GL7 w' [oCbc23_1, [(bc2, Cells 132 [(0, .map (some b12)), (1, .map (some b22)), (2, .int .i64 (lastT h p.1)), (3, .slice oAbc23_1 ((p.2.1).length) ocbc23_1), (4, .slice (some ⟨be2, 0, none⟩) h.length h.length)])], [(b12, MapF Tryd.prog 49 kvV vvI (busyF h p.1))], [(b22, MapF Tryd.prog 49 kvV vvI (lostF h p.1))], [(be2, Arr 3 p.2.2)], [(B3, Cells 39 [(0, .int .i64 0), (1, .int .i64 0)])]] ∧ Env a' 29 [] [(0, .slice A h.length c), (2, .pointer none), (3, .pointer (some ⟨B3, 0, none⟩)), (4, .pointer (some ⟨bc2, 0, none⟩)), (10, .slice A h.length c), (11, .int .i64 (h.length : Int)), (12, .int .i64 ((p.1 : Nat) : Int))] ∧ X.Own (Knd.int .i64) 3 GL7 oAbc23_1 ocbc23_1 (p.2.1) oCbc23_1 ∧ (p.1 ≤ h.length ∧ p.2.2.length = h.length ∧ p.2.1.length ≤ p.1 ∧ ∀ j, j < p.1 → wrongS h j = 0)) (fun (p : Nat × List Int × List Value) => h.length - p.1) (0, [], List.replicate h.length (.int .i64 0)) ⟨_, _, _, _, Heap.le.refl _, S, E.cut ⟨rfl, rfl, rfl, rfl, rfl, rfl, rfl, trivial⟩, oH2, ⟨Nat.zero_le _, by simp, Nat.le_refl _, fun j hj => absurd hj (Nat.not_lt_zero _)⟩⟩ ?_
 clear E S; intro p a w ⟨oAbc23_1, ocbc23_1, oCbc23_1, GL7, hle8, S, E, oHbc23_1, ⟨hi, hes, hgs, hall⟩⟩
 replace hg0 := hg0.le hle8
 replace hg1 := hg1.le hle8
 replace hR := hR.le hle8
 refine sr fun K hK => ?_
 refine rn 1 E S ?_; clear E S; intro a w E S
 apply hK; clear hK K
 refine wp_seq_k (fun K11 hK10 => ?_)
 refine cond E rfl (fun h12r => ?_) (fun h12r => ?_)
 ·have h12 := nm h12r
  refine wp_skip ?_
  refine hK10 _ _ ?_; clear hK10
  refine wp_seq_k (fun K14 hK13 => ?_)
  refine wp_block ?_
  refine sr fun K hK => ?_
  refine rn 2 E S ?_; clear E S; intro a w E S
  apply hK; clear hK K
  refine sr fun K hK => ?_
  refine rn 3 E S ?_; clear E S; intro a w E S
  replace S := S.front (C := [(be2, Arr 3 p.2.2)]) (.there (.there (.there (.there .here))))
  replace S := S.front (C := oCbc23_1) (.there .here)
  replace S := S.front (C := [(b22, MapF Tryd.prog 49 kvV vvI (lostF h p.1))]) (.there (.there (.there (.there .here))))
  replace S := S.front (C := [(b12, MapF Tryd.prog 49 kvV vvI (busyF h p.1))]) (.there (.there (.there (.there .here))))
  replace S := S.front (C := [(bc2, Cells 132 [(0, .map (some b12)), (1, .map (some b22)), (2, .int .i64 (lastT h p.1)), (3, .slice oAbc23_1 ((p.2.1).length) ocbc23_1), (4, .slice (some ⟨be2, 0, none⟩) h.length h.length)])]) (.there (.there (.there (.there .here))))
  refine o_callMs [[(bc2, Cells 132 [(0, .map (some b12)), (1, .map (some b22)), (2, .int .i64 (lastT h p.1)), (3, .slice oAbc23_1 ((p.2.1).length) ocbc23_1), (4, .slice (some ⟨be2, 0, none⟩) h.length h.length)])], [(b12, MapF Tryd.prog 49 kvV vvI (busyF h p.1))], [(b22, MapF Tryd.prog 49 kvV vvI (lostF h p.1))], oCbc23_1, [(be2, Arr 3 p.2.2)]] (R0 := [[(B3, Cells 39 [(0, .int .i64 0), (1, .int .i64 0)])]]) E rfl S rfl rfl T.g67 (c_see (M0 := [[(B3, Cells 39 [(0, .int .i64 0), (1, .int .i64 0)])]]) bc2 b12 b22 be2 h.length (busyF h p.1) (lostF h p.1) (lastT h p.1) p.2.1 _ _ _ p.2.2 h _ _ p.1 _ _ S hg0 hg1 oHbc23_1 hes rfl rfl rfl rfl hgs hR (by omega) (by omega) hok) ?_
  clear E S; rintro _ G16 _ w a S hle16 ⟨rfl, f1_16, f2_16, la_16, gs_16, Ag_16, cg_16, oC16, es_16, rfl, oH16, hes_16, hn_16⟩ E
  replace S := S.unflat; simp only [List.cons_append, List.nil_append] at S
  replace hg0 := hg0.le hle16
  replace hg1 := hg1.le hle16
  replace hR := hR.le hle16
  refine rn 1 E S ?_; clear E S; intro a w E S
  apply hK; clear hK K
  refine sr fun K hK => ?_
  refine rn 2 E S ?_; clear E S; intro a w E S
  apply hK; clear hK K
  refine cond E rfl (fun h19r => ?_) (fun h19r => ?_)
  ·have h19 := nm h19r
   refine sr fun K hK => ?_
   refine rn 4 E S ?_; clear E S; intro a w E S
   refine o_build (cs := #[.int .i64 (wrongS h p.1), .int .i64 (((p.1 : Nat) : Int) + 1)]) E rfl rfl (by kernel_rfl) ?_; clear E; intro a E
   refine rn 2 E S ?_; clear E S; intro a w E S
   apply hK; clear hK K
   refine rt hQ E S ?_
   have he := check_bad (h := h) (i := p.1) (by omega) hall h19
   exact ⟨_, by rw [he]; rfl⟩
  ·have h19 := nm h19r
   refine wp_skip ?_
   refine hK13 _ _ ?_; clear hK13
   refine wp_region_lit ?_
   refine rn 2 E S ?_; clear E S; intro a w E S
   replace S := S.front (C := oC16) (.there (.there (.there .here)))
   obtain ⟨hf1_9, hf2_9, hla_9, hgs_9⟩ := hn_16 (by simpa using h19)
   subst hf1_9 hf2_9 hla_9
   have hall2 : ∀ j, j < p.1 + 1 → wrongS h j = 0 := by
    intro j hj
    rcases Nat.lt_or_ge j p.1 with h_9 | h_9
    ·exact hall j h_9
    ·obtain rfl : j = p.1 := by omega
     simpa using h19
   exact ⟨(p.1 + 1, gs_16, es_16), ⟨_, _, _, _, (hle8.trans hle16), S, E.cut ⟨rfl, rfl, rfl, rfl, rfl, rfl, rfl, trivial⟩, oH16, ⟨by dsimp only; omega, hes_16, hgs_9, hall2⟩⟩, by show h.length - (p.1 + 1) < _; omega⟩
 ·have h12 := nm h12r
  refine wp_exit ?_
  refine hK4 _ _ ?_; clear hK4
  refine sr fun K hK => ?_
  refine rn 1 E S ?_; clear E S; intro a w E S
  refine o_build (cs := #[.int .i64 0, .int .i64 0]) E rfl rfl (by kernel_rfl) ?_; clear E; intro a E
  refine rn 2 E S ?_; clear E S; intro a w E S
  apply hK; clear hK K
  refine rt hQ E S ?_
  have he := check_good (h := h) (fun j hj => hall j (by omega))
  exact ⟨_, by rw [he]; rfl⟩

/-! `incognito/pair.Check` -/
theorem c_check12 (h : List Evt) (A : Option Addr) (c : Nat) (w0 : World) (G : Heap) (hG : Sub G w0) (hg0 : CellsAt G 0 0 [.int .i64 3, .int .i64 1, str []]) (hg1 : CellsAt G 1 0 [.int .i64 3, .int .i64 0, str []]) (hR : Rd kEvt G A h) (hl : h.length ≤ 1000000000) (hok : ∀ x ∈ h, x.Wf ∧ (rightE x = true → x.out.length ≤ 1000000)):
  Calls Tryd.prog 47 #[.slice A h.length c] w0 (Ret w0 G (fun v _ => v = .agg #[.int .i64 (checkS h).1, .int .i64 (checkS h).2])) := by
 refine enter Tryd.func47 rfl Tryd.ntmps47 rfl ?_
 intro Q hQ a E
 have S := St.start0 hG
 refine sr fun K hK => ?_
 refine o_allocZ E rfl S ?_; clear E S; intro B2 w a S E
 apply hK; clear hK K
 refine sr fun K hK => ?_
 refine rn 1 E S ?_; clear E S; intro a w E S
 refine o_call E rfl S rfl rfl T.g58 (c_all12 h _ _ _ _ S.sub hg0 hg1 hR (by omega) hok) ?_
 clear E S; rintro _ G2 w a S hle2 ⟨b_2, rfl⟩ E
 replace hg0 := hg0.le hle2
 replace hg1 := hg1.le hle2
 replace hR := hR.le hle2
 refine rn 3 E S ?_; clear E S; intro a w E S
 refine o_allocZ E rfl S ?_; clear E S; intro B4 w a S E
 refine rn 2 E S ?_; clear E S; intro a w E S
 apply hK; clear hK K
 refine sr fun K hK => ?_
 refine rn 2 E S ?_; clear E S; intro a w E S
 apply hK; clear hK K
 refine rt hQ E S ?_
 show _ = _
 rfl
end Go.Proofs.YtnfadpkhjfillaaDoor.T28
