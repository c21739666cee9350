/- Chapter 25 walked: words, lines, kinds. -/
import Derived.Test.YtiinipcmghhacaaDoorA8a
set_option linter.unusedVariables false
set_option linter.unusedSimpArgs false
namespace Go.Proofs.YtiinipcmghhacaaDoor.T10
open Go Go.Proofs.YtiinipcmghhacaaDoor.X
/-! `incognito/incognitoref25.line` -/
set_option maxRecDepth 100000 in
set_option maxHeartbeats 4000000 in
theorem c_line25 (s : Bs) (p : Pol) (w0 : World) (G : Heap) (hG : Sub G w0) :
    Calls Tryd.prog 40 #[str s, .agg #[.int .i64 p.r0.way, .int .i64 p.r0.size, .int .i64 p.r1.way, .int .i64 p.r1.size, .int .i64 p.r2.way, .int .i64 p.r2.size, .int .i64 p.r3.way, .int .i64 p.r3.size, .int .i64 p.r4.way, .int .i64 p.r4.size, .int .i64 p.time, .int .i64 p.note, .bool p.loose, .bool p.force]] w0 (Ret w0 G (fun v _ => v = .tuple #[.int .i64 (lineR s p).1, .agg (polCells (lineR s p).2).toArray])) := by
  refine enter Tryd.func40 rfl Tryd.ntmps40 rfl ?_
  intro Q hQ a HE
  have HS := St.start0 hG
  refine wp_seq_k (fun K hK => ?_); refine wp_region_lit ?_
  refine o_boxL [(0, _), (1, _), (2, _), (3, _), (4, _), (5, _), (6, _), (7, _), (8, _), (9, _), (10, _), (11, _), (12, _), (13, _)] HE rfl HS rfl ⟨rfl, rfl, rfl, rfl, rfl, rfl, rfl, rfl, rfl, rfl, rfl, rfl, rfl, rfl, trivial⟩ ?_; clear HE HS; intro B3 w a HS HE
  refine o_assign HE rfl rfl ?_; clear HE; intro a HE
  refine o_allocL [(0, _), (1, _), (2, _), (3, _), (4, _), (5, _), (6, _), (7, _), (8, _), (9, _), (10, _), (11, _), (12, _), (13, _)] HE rfl HS T.z26 ⟨rfl, rfl, rfl, rfl, rfl, rfl, rfl, rfl, rfl, rfl, rfl, rfl, rfl, rfl, trivial⟩ ?_; clear HE HS; intro B5 w a HS HE
  refine hK _ _ ?_; clear hK K
  refine wp_seq_k (fun K3 hK2 => ?_)
  refine wp_seq_k (fun K hK => ?_); refine wp_region_lit ?_
  refine o_assign HE rfl rfl ?_; clear HE; intro a HE
  refine hK _ _ ?_; clear hK K
  refine wp_block ?_
  refine wp_loop_rounds 6 ?_
  rw [rounds_succ]
  refine wp_seq_k (fun K6 hK5 => ?_)
  refine wp_seq_k (fun K hK => ?_); refine wp_region_lit ?_
  skip
  refine o_move HE rfl rfl ?_; clear HE; intro a HE
  refine o_lss HE rfl rfl rfl ?_; clear HE; intro a HE
  refine hK _ _ ?_; clear hK K
  refine cond HE rfl (fun h8 => ?_) (fun h8 => ?_)
  · have h8r := h8; try simp only [Bool.not_eq_true', Bool.not_eq_false', Bool.and_eq_true, Bool.or_eq_true, Bool.or_eq_false_iff, Bool.and_eq_false_iff, decide_eq_true_eq, decide_eq_false_iff_not, beq_iff_eq, beq_eq_false_iff_ne, ne_eq] at h8
    refine wp_skip ?_
    refine hK5 _ _ ?_; clear hK5
    refine wp_seq_k (fun K10 hK9 => ?_)
    refine wp_block ?_
    refine wp_seq_k (fun K hK => ?_); refine wp_region_lit ?_
    skip
    refine o_assign HE rfl rfl ?_; clear HE; intro a HE
    refine hK _ _ ?_; clear hK K
    refine wp_block ?_
    refine loop (fun (wv : Nat) a' w' => St w0 G [] G w' [[(B5, Cells 26 [(0, .int .i64 0), (1, .int .i64 0), (2, .int .i64 0), (3, .int .i64 0), (4, .int .i64 0), (5, .int .i64 0), (6, .int .i64 0), (7, .int .i64 0), (8, .int .i64 0), (9, .int .i64 0), (10, .int .i64 0), (11, .int .i64 0), (12, .bool false), (13, .bool false)])], [(B3, Cells 26 [(0, .int .i64 p.r0.way), (1, .int .i64 p.r0.size), (2, .int .i64 p.r1.way), (3, .int .i64 p.r1.size), (4, .int .i64 p.r2.way), (5, .int .i64 p.r2.size), (6, .int .i64 p.r3.way), (7, .int .i64 p.r3.size), (8, .int .i64 p.r4.way), (9, .int .i64 p.r4.size), (10, .int .i64 p.time), (11, .int .i64 p.note), (12, .bool p.loose), (13, .bool p.force)])]] ∧ Env a' 65 [] [(0, str s), (3, .pointer (some ⟨B3, 0, none⟩)), (4, .int .i64 0), (5, .pointer (some ⟨B5, 0, none⟩)), (6, .int .i64 0), (7, .int .i64 ((wv : Nat) : Int))] ∧ (wv ≤ 4 ∧ ∀ w' n' : Nat, w' < wv → n' ≤ 16 → matchS s 0 w' n' = false)) (fun (wv : Nat) => 4 - wv) 0 ⟨HS, HE.cut ⟨rfl, rfl, rfl, rfl, rfl, rfl, trivial⟩, ⟨Nat.zero_le _, fun _ _ h => absurd h (Nat.not_lt_zero _)⟩⟩ ?_
    clear HE HS; intro wv a w ⟨HS, HE, ⟨hw, hnw⟩⟩
    refine wp_seq_k (fun K14 hK13 => ?_)
    refine wp_seq_k (fun K hK => ?_); refine wp_region_lit ?_
    refine o_move HE rfl rfl ?_; clear HE; intro a HE
    refine o_leq HE rfl rfl rfl ?_; clear HE; intro a HE
    refine hK _ _ ?_; clear hK K
    refine cond HE rfl (fun h16 => ?_) (fun h16 => ?_)
    · have h16r := h16; try simp only [Bool.not_eq_true', Bool.not_eq_false', Bool.and_eq_true, Bool.or_eq_true, Bool.or_eq_false_iff, Bool.and_eq_false_iff, decide_eq_true_eq, decide_eq_false_iff_not, beq_iff_eq, beq_eq_false_iff_ne, ne_eq] at h16
      refine wp_skip ?_
      refine hK13 _ _ ?_; clear hK13
      refine wp_seq_k (fun K18 hK17 => ?_)
      refine wp_block ?_
      refine wp_seq_k (fun K hK => ?_); refine wp_region_lit ?_
      refine o_assign HE rfl rfl ?_; clear HE; intro a HE
      refine hK _ _ ?_; clear hK K
      refine wp_block ?_
      refine loop (fun (n : Nat) a' w' => St w0 G [] G w' [[(B5, Cells 26 [(0, .int .i64 0), (1, .int .i64 0), (2, .int .i64 0), (3, .int .i64 0), (4, .int .i64 0), (5, .int .i64 0), (6, .int .i64 0), (7, .int .i64 0), (8, .int .i64 0), (9, .int .i64 0), (10, .int .i64 0), (11, .int .i64 0), (12, .bool false), (13, .bool false)])], [(B3, Cells 26 [(0, .int .i64 p.r0.way), (1, .int .i64 p.r0.size), (2, .int .i64 p.r1.way), (3, .int .i64 p.r1.size), (4, .int .i64 p.r2.way), (5, .int .i64 p.r2.size), (6, .int .i64 p.r3.way), (7, .int .i64 p.r3.size), (8, .int .i64 p.r4.way), (9, .int .i64 p.r4.size), (10, .int .i64 p.time), (11, .int .i64 p.note), (12, .bool p.loose), (13, .bool p.force)])]] ∧ Env a' 65 [] [(0, str s), (3, .pointer (some ⟨B3, 0, none⟩)), (4, .int .i64 0), (5, .pointer (some ⟨B5, 0, none⟩)), (6, .int .i64 0), (7, .int .i64 ((wv : Nat) : Int)), (8, .int .i64 ((n : Nat) : Int))] ∧ (n ≤ 17 ∧ ∀ n' : Nat, n' < n → matchS s 0 wv n' = false)) (fun (n : Nat) => 17 - n) 0 ⟨HS, HE.cut ⟨rfl, rfl, rfl, rfl, rfl, rfl, rfl, trivial⟩, ⟨Nat.zero_le _, fun _ h => absurd h (Nat.not_lt_zero _)⟩⟩ ?_
      clear HE HS; intro n a w ⟨HS, HE, ⟨hn, hnn⟩⟩
      refine wp_seq_k (fun K22 hK21 => ?_)
      refine wp_seq_k (fun K hK => ?_); refine wp_region_lit ?_
      refine o_move HE rfl rfl ?_; clear HE; intro a HE
      refine o_leq HE rfl rfl rfl ?_; clear HE; intro a HE
      refine hK _ _ ?_; clear hK K
      refine cond HE rfl (fun h24 => ?_) (fun h24 => ?_)
      · have h24r := h24; try simp only [Bool.not_eq_true', Bool.not_eq_false', Bool.and_eq_true, Bool.or_eq_true, Bool.or_eq_false_iff, Bool.and_eq_false_iff, decide_eq_true_eq, decide_eq_false_iff_not, beq_iff_eq, beq_eq_false_iff_ne, ne_eq] at h24
        refine wp_skip ?_
        refine hK21 _ _ ?_; clear hK21
        refine wp_seq_k (fun K26 hK25 => ?_)
        refine wp_block ?_
        refine wp_seq_k (fun K hK => ?_); refine wp_region_lit ?_
        refine o_move HE rfl rfl ?_; clear HE; intro a HE
        refine o_move HE rfl rfl ?_; clear HE; intro a HE
        refine o_build (cs := #[.int .i64 ((wv : Nat) : Int), .int .i64 ((n : Nat) : Int)]) HE rfl rfl (by kernel_rfl) ?_; clear HE; intro a HE
        refine o_allocL [(0, _), (1, _)] HE rfl HS T.z23 ⟨rfl, rfl, trivial⟩ ?_; clear HE HS; intro B9 w a HS HE
        refine o_stA HE HS rfl rfl rfl T.a23 (.here .here) rfl ?_; clear HS; intro w HS
        refine hK _ _ ?_; clear hK K
        refine wp_seq_k (fun K hK => ?_); refine wp_region_lit ?_
        refine o_move HE rfl rfl ?_; clear HE; intro a HE
        refine o_ldA HE rfl HS rfl T.a23 (.here .here) rfl ?_; clear HE; intro a HE
        refine o_callP HE rfl HS rfl rfl T.g34 (c_Ruled 0 (⟨((wv : Nat) : Int), ((n : Nat) : Int)⟩ : Rul) _ _ HS.sub) ?_
        clear HE HS; rintro _ w a HS rfl HE
        refine o_move HE rfl rfl ?_; clear HE; intro a HE
        obtain ⟨M0, hM0, HS⟩ : ∃ M0, M0 = _ ∧ St w0 G [] G _ M0 := ⟨_, rfl, HS⟩
        refine cutL 6 (fun a' w' => St w0 G [] G w' M0 ∧ Env a' 65 [] [(34, .bool ((ruledB 0 ⟨((wv : Nat) : Int), ((n : Nat) : Int)⟩) && ((saidS 0 (⟨((wv : Nat) : Int), ((n : Nat) : Int)⟩ : Rul)) == s))), (0, str s), (3, .pointer (some ⟨B3, 0, none⟩)), (4, .int .i64 0), (5, .pointer (some ⟨B5, 0, none⟩)), (6, .int .i64 0), (7, .int .i64 ((wv : Nat) : Int)), (8, .int .i64 ((n : Nat) : Int)), (9, .pointer (some ⟨B9, 0, none⟩)), (18, .int .i64 ((n : Nat) : Int)), (19, .bool (decide (((n : Nat) : Int) ≤ 16))), (22, .int .i64 ((wv : Nat) : Int)), (23, .int .i64 ((n : Nat) : Int)), (24, .agg #[.int .i64 ((wv : Nat) : Int), .int .i64 ((n : Nat) : Int)])]) ?_ ?_
        · refine (Bool.eq_false_or_eq_true (ruledB 0 ⟨((wv : Nat) : Int), ((n : Nat) : Int)⟩)).elim (fun hb28 => ?_) (fun hb28 => ?_)
          · subst hM0
            have hk29 := hb28; try simp only [Bool.not_eq_true', Bool.not_eq_false', Bool.and_eq_true, Bool.or_eq_true, Bool.or_eq_false_iff, decide_eq_true_eq, decide_eq_false_iff_not, beq_iff_eq, beq_eq_false_iff_ne, ne_eq] at hk29
            refine op_on HE rfl rfl hb28 ?_
            refine o_move HE rfl rfl ?_; clear HE; intro a HE
            refine op_on HE rfl rfl hb28 ?_
            refine o_ldA HE rfl HS rfl T.a23 (.here .here) rfl ?_; clear HE; intro a HE
            refine op_on HE rfl rfl hb28 ?_
            refine o_callP HE rfl HS rfl rfl T.g35 (c_said 0 (⟨((wv : Nat) : Int), ((n : Nat) : Int)⟩ : Rul) _ _ HS.sub (by first | assumption | (constructor <;> dsimp only <;> omega))) ?_
            clear HE HS; rintro _ w a HS rfl HE
            refine op_on HE rfl rfl hb28 ?_
            refine o_move HE rfl rfl ?_; clear HE; intro a HE
            refine op_on HE rfl rfl hb28 ?_
            refine o_eqS HE rfl rfl rfl ?_; clear HE; intro a HE
            refine o_pick_t HE rfl rfl hb28 rfl ?_; clear HE; intro a HE
            exact ⟨HS, HE.cut ⟨by rw [hb28]; rfl, rfl, rfl, rfl, rfl, rfl, rfl, rfl, rfl, rfl, rfl, rfl, rfl, rfl, trivial⟩⟩
          · subst hM0
            have hk30 := hb28; try simp only [Bool.not_eq_true', Bool.not_eq_false', Bool.and_eq_true, Bool.or_eq_true, Bool.or_eq_false_iff, decide_eq_true_eq, decide_eq_false_iff_not, beq_iff_eq, beq_eq_false_iff_ne, ne_eq] at hk30
            refine g_off HE rfl rfl rfl hb28 ?_; clear HE; intro a HE
            refine g_off HE rfl rfl rfl hb28 ?_; clear HE; intro a HE
            refine g_off HE rfl rfl rfl hb28 ?_; clear HE; intro a HE
            refine g_off HE rfl rfl rfl hb28 ?_; clear HE; intro a HE
            refine g_off HE rfl rfl rfl hb28 ?_; clear HE; intro a HE
            refine o_pick_f HE rfl rfl hb28 rfl ?_; clear HE; intro a HE
            exact ⟨HS, HE.cut ⟨by rw [hb28]; rfl, rfl, rfl, rfl, rfl, rfl, rfl, rfl, rfl, rfl, rfl, rfl, rfl, rfl, trivial⟩⟩
        clear HE HS; rintro a w ⟨HS, HE⟩; subst hM0
        refine hK _ _ ?_; clear hK K
        refine cond HE rfl (fun h32 => ?_) (fun h32 => ?_)
        · have h32r := h32; try simp only [Bool.not_eq_true', Bool.not_eq_false', Bool.and_eq_true, Bool.or_eq_true, Bool.or_eq_false_iff, Bool.and_eq_false_iff, decide_eq_true_eq, decide_eq_false_iff_not, beq_iff_eq, beq_eq_false_iff_ne, ne_eq] at h32
          refine wp_seq_k (fun K hK => ?_); refine wp_region_lit ?_
          refine o_move HE rfl rfl ?_; clear HE; intro a HE
          refine o_ldA HE rfl HS rfl T.a23 (.here .here) rfl ?_; clear HE; intro a HE
          refine o_fld HE rfl rfl T.f26_0 ?_; clear HE; intro a HE
          refine o_ixA HE rfl rfl rfl T.r24 (by decide) ?_; clear HE; intro a HE
          refine o_stA HE HS rfl rfl rfl T.a23 (.there (.there (.here .here))) rfl ?_; clear HS; intro w HS
          refine hK _ _ ?_; clear hK K
          refine wp_seq_k (fun K35 hK34 => ?_)
          replace HS := HS.conv (L2 := [(0, _), (1, _)]) (.here .here) ⟨rfl, rfl, trivial⟩
          replace HS := HS.conv (L2 := [(0, _), (1, _), (2, _), (3, _), (4, _), (5, _), (6, _), (7, _), (8, _), (9, _), (10, _), (11, _), (12, _), (13, _)]) (.there (.there (.here .here))) ⟨rfl, rfl, rfl, rfl, rfl, rfl, rfl, rfl, rfl, rfl, rfl, rfl, rfl, rfl, trivial⟩
          replace HE := HE.cut (L' := [(0, str s), (3, .pointer (some ⟨B3, 0, none⟩)), (5, .pointer (some ⟨B5, 0, none⟩)), (6, .int .i64 0), (7, .int .i64 ((wv : Nat) : Int)), (8, .int .i64 ((n : Nat) : Int)), (9, .pointer (some ⟨B9, 0, none⟩)), (18, .int .i64 ((n : Nat) : Int)), (19, .bool (decide (((n : Nat) : Int) ≤ 16))), (22, .int .i64 ((wv : Nat) : Int)), (23, .int .i64 ((n : Nat) : Int)), (24, .agg #[.int .i64 ((wv : Nat) : Int), .int .i64 ((n : Nat) : Int)]), (34, .bool ((ruledB 0 ⟨((wv : Nat) : Int), ((n : Nat) : Int)⟩) && ((saidS 0 (⟨((wv : Nat) : Int), ((n : Nat) : Int)⟩ : Rul)) == s))), (35, .int .i64 0), (36, .agg #[.int .i64 ((wv : Nat) : Int), .int .i64 ((n : Nat) : Int)]), (37, .pointer (some ⟨B3, 0, none⟩)), (38, .pointer (some ⟨B3, 0, none⟩))]) ⟨rfl, rfl, rfl, rfl, rfl, rfl, rfl, rfl, rfl, rfl, rfl, rfl, rfl, rfl, rfl, rfl, rfl, trivial⟩
          refine drawnF (fun f G' w => Heap.le G G' ∧ St w0 G [] G' w [[(B9, Cells 23 [(0, .int .i64 ((wv : Nat) : Int)), (1, .int .i64 ((n : Nat) : Int))])], [(B5, Cells 26 [(0, bif f 3 then .int .i64 ((wv : Nat) : Int) else .int .i64 0), (1, bif f 3 then .int .i64 ((n : Nat) : Int) else .int .i64 0), (2, bif f 3 then .int .i64 p.r1.way else .int .i64 0), (3, bif f 3 then .int .i64 p.r1.size else .int .i64 0), (4, bif f 3 then .int .i64 p.r2.way else .int .i64 0), (5, bif f 3 then .int .i64 p.r2.size else .int .i64 0), (6, bif f 3 then .int .i64 p.r3.way else .int .i64 0), (7, bif f 3 then .int .i64 p.r3.size else .int .i64 0), (8, bif f 3 then .int .i64 p.r4.way else .int .i64 0), (9, bif f 3 then .int .i64 p.r4.size else .int .i64 0), (10, bif f 3 then .int .i64 p.time else .int .i64 0), (11, bif f 3 then .int .i64 p.note else .int .i64 0), (12, bif f 3 then .bool p.loose else .bool false), (13, bif f 3 then .bool p.force else .bool false)])], [(B3, Cells 26 [(0, .int .i64 ((wv : Nat) : Int)), (1, .int .i64 ((n : Nat) : Int)), (2, .int .i64 p.r1.way), (3, .int .i64 p.r1.size), (4, .int .i64 p.r2.way), (5, .int .i64 p.r2.size), (6, .int .i64 p.r3.way), (7, .int .i64 p.r3.size), (8, .int .i64 p.r4.way), (9, .int .i64 p.r4.size), (10, .int .i64 p.time), (11, .int .i64 p.note), (12, .bool p.loose), (13, .bool p.force)])]]) [fun v _ => v = .int .i64 0, fun v _ => v = .agg #[.int .i64 ((wv : Nat) : Int), .int .i64 ((n : Nat) : Int), .int .i64 p.r1.way, .int .i64 p.r1.size, .int .i64 p.r2.way, .int .i64 p.r2.size, .int .i64 p.r3.way, .int .i64 p.r3.size, .int .i64 p.r4.way, .int .i64 p.r4.size, .int .i64 p.time, .int .i64 p.note, .bool p.loose, .bool p.force], fun v _ => v = .int .i64 0, fun _ _ => True] [] T.mix rfl HE ⟨Heap.le.refl _, HS.drew⟩ rfl (by simp) (AllM.get ⟨fun _ _ _ _ h => h, fun _ _ _ _ h => h, fun _ _ _ _ h => h, fun _ _ _ _ h => h, trivial⟩) ⟨?_, ?_, ?_, ?_, trivial⟩ ?_
          · intro a w G1 f hcl hfi hon hW HE hp hO; obtain ⟨hl, HS⟩ := hW
            refine o_move HE rfl rfl ?_; clear HE; intro a HE
            exact ⟨_, _, Heap.le.refl _, ⟨hl, HS⟩, fun d hd => (by cases hd; exact HE.get _ _ rfl), HE.defers, rfl⟩
          · intro a w G1 f hcl hfi hon hW HE hp hO; obtain ⟨hl, HS⟩ := hW
            refine o_ldA HE rfl HS rfl T.a26 (.there (.there (.here .here))) rfl ?_; clear HE; intro a HE
            exact ⟨_, _, Heap.le.refl _, ⟨hl, HS⟩, fun d hd => (by cases hd; exact HE.get _ _ rfl), HE.defers, rfl⟩
          · intro a w G1 f hcl hfi hon hW HE hp hO; obtain ⟨hl, HS⟩ := hW
            obtain ⟨_, e0, rfl⟩ := hp 0 39 _ (hon 0 rfl) rfl rfl; replace HE := HE.add e0
            refine o_assign HE rfl rfl ?_; clear HE; intro a HE
            exact ⟨_, _, Heap.le.refl _, ⟨hl, HS⟩, fun d hd => (by cases hd; exact HE.get _ _ rfl), HE.defers, rfl⟩
          · intro a w G1 f hcl hfi hon hW HE hp hO; obtain ⟨hl, HS⟩ := hW
            obtain ⟨_, e1, rfl⟩ := hp 1 40 _ (hon 1 rfl) rfl rfl; replace HE := HE.add e1
            refine o_stA HE HS rfl rfl rfl T.a26 (.there (.here .here)) rfl ?_; clear HS; intro w HS
            replace HS := HS.conv (L2 := [(0, _), (1, _), (2, _), (3, _), (4, _), (5, _), (6, _), (7, _), (8, _), (9, _), (10, _), (11, _), (12, _), (13, _)]) (.there (.here .here)) ⟨rfl, rfl, rfl, rfl, rfl, rfl, rfl, rfl, rfl, rfl, rfl, rfl, rfl, rfl, trivial⟩
            exact ⟨.bool true, _, Heap.le.refl _, ⟨hl, HS⟩, fun d hd => (by cases hd), HE.defers, trivial⟩
          clear HE HS; intro a w G36 f hle37 hall HW HE hp; obtain ⟨_, HS⟩ := HW
          have hfw3 := hall 3 (by decide)
          simp only [hfw3, cond_true] at HS
          obtain ⟨_, e2, rfl⟩ := hp 2 4 _ rfl rfl; replace HE := HE.add e2
          clear hp hall
          refine hK34 _ _ ?_; clear hK34
          refine wp_ret ?_
          show Q .ret _ _
          refine ret hQ HE rfl (HE.res rfl (HE.resA HS rfl T.a26 (.there (.here .here)) rfl .nil)) ⟨_, _, HS.stop (List.nil_sublist _), rfl, ?_⟩
          have hm : matchS s 0 wv n = true := h32r
          have e : lineR s p = (0, (⟨⟨((wv : Nat) : Int), ((n : Nat) : Int)⟩, ⟨p.r1.way, p.r1.size⟩, ⟨p.r2.way, p.r2.size⟩, ⟨p.r3.way, p.r3.size⟩, ⟨p.r4.way, p.r4.size⟩, p.time, p.note, p.loose, p.force⟩ : Pol)) := lineR_hit (d := 0) (by decide) (by omega) (by omega) hm
          show _ = _
          rw [e]
          rfl
        · have h32r := h32; try simp only [Bool.not_eq_true', Bool.not_eq_false', Bool.and_eq_true, Bool.or_eq_true, Bool.or_eq_false_iff, Bool.and_eq_false_iff, decide_eq_true_eq, decide_eq_false_iff_not, beq_iff_eq, beq_eq_false_iff_ne, ne_eq] at h32
          refine wp_skip ?_
          refine hK25 _ _ ?_; clear hK25
          refine wp_region_lit ?_
          refine o_move HE rfl rfl ?_; clear HE; intro a HE
          refine o_add HE rfl rfl rfl (by omega) ?_; clear HE; intro a HE
          refine o_assign HE rfl rfl ?_; clear HE; intro a HE
          replace HS := HS.drop (M' := [_, _]) (sub_drop (sub_keep (sub_keep sub_nil)))
          have hnn2 : ∀ n' : Nat, n' < n + 1 → matchS s 0 wv n' = false := fun n' hn' => by
            by_cases e : n' = n
            · subst e; exact h32r
            · exact hnn n' (by omega)
          exact ⟨n + 1, ⟨HS, HE.cut ⟨rfl, rfl, rfl, rfl, rfl, rfl, rfl, trivial⟩, ⟨by omega, hnn2⟩⟩, by omega⟩
      · have h24r := h24; try simp only [Bool.not_eq_true', Bool.not_eq_false', Bool.and_eq_true, Bool.or_eq_true, Bool.or_eq_false_iff, Bool.and_eq_false_iff, decide_eq_true_eq, decide_eq_false_iff_not, beq_iff_eq, beq_eq_false_iff_ne, ne_eq] at h24
        refine wp_exit ?_
        refine hK17 _ _ ?_; clear hK17
        refine wp_region_lit ?_
        refine o_move HE rfl rfl ?_; clear HE; intro a HE
        refine o_add HE rfl rfl rfl (by omega) ?_; clear HE; intro a HE
        skip
        refine o_assign HE rfl rfl ?_; clear HE; intro a HE
        have hnw2 : ∀ w' n' : Nat, w' < wv + 1 → n' ≤ 16 → matchS s 0 w' n' = false := fun w' n' hw' hn' => by
          by_cases e : w' = wv
          · subst e; exact hnn n' (by omega)
          · exact hnw w' n' (by omega) hn'
        exact ⟨wv + 1, ⟨HS, HE.cut ⟨rfl, rfl, rfl, rfl, rfl, rfl, trivial⟩, ⟨by omega, hnw2⟩⟩, by omega⟩
    · have h16r := h16; try simp only [Bool.not_eq_true', Bool.not_eq_false', Bool.and_eq_true, Bool.or_eq_true, Bool.or_eq_false_iff, Bool.and_eq_false_iff, decide_eq_true_eq, decide_eq_false_iff_not, beq_iff_eq, beq_eq_false_iff_ne, ne_eq] at h16
      refine wp_exit ?_
      refine hK9 _ _ ?_; clear hK9
      refine wp_region_lit ?_
      have hd0 : ∀ w' n' : Nat, w' < 4 → n' ≤ 16 → matchS s 0 w' n' = false := fun w' n' hw' hn' => hnw w' n' (by omega) hn'
      refine o_move HE rfl rfl ?_; clear HE; intro a HE
      refine o_add HE rfl rfl rfl (by omega) ?_; clear HE; intro a HE
      refine o_assign HE rfl rfl ?_; clear HE; intro a HE
      show Code.rounds _ _ _ _ _ _
      replace HE := HE.cut (L' := [(0, str s), (3, .pointer (some ⟨B3, 0, none⟩)), (4, .int .i64 0), (5, .pointer (some ⟨B5, 0, none⟩)), (6, .int .i64 1)]) ⟨rfl, rfl, rfl, rfl, rfl, trivial⟩
      rw [rounds_succ]
      refine wp_seq_k (fun K39 hK38 => ?_)
      refine wp_seq_k (fun K hK => ?_); refine wp_region_lit ?_
      skip
      refine o_move HE rfl rfl ?_; clear HE; intro a HE
      refine o_lss HE rfl rfl rfl ?_; clear HE; intro a HE
      refine hK _ _ ?_; clear hK K
      refine cond HE rfl (fun h41 => ?_) (fun h41 => ?_)
      · have h41r := h41; try simp only [Bool.not_eq_true', Bool.not_eq_false', Bool.and_eq_true, Bool.or_eq_true, Bool.or_eq_false_iff, Bool.and_eq_false_iff, decide_eq_true_eq, decide_eq_false_iff_not, beq_iff_eq, beq_eq_false_iff_ne, ne_eq] at h41
        refine wp_skip ?_
        refine hK38 _ _ ?_; clear hK38
        refine wp_seq_k (fun K43 hK42 => ?_)
        refine wp_block ?_
        refine wp_seq_k (fun K hK => ?_); refine wp_region_lit ?_
        skip
        refine o_assign HE rfl rfl ?_; clear HE; intro a HE
        refine hK _ _ ?_; clear hK K
        refine wp_block ?_
        refine loop (fun (wv : Nat) a' w' => St w0 G [] G w' [[(B5, Cells 26 [(0, .int .i64 0), (1, .int .i64 0), (2, .int .i64 0), (3, .int .i64 0), (4, .int .i64 0), (5, .int .i64 0), (6, .int .i64 0), (7, .int .i64 0), (8, .int .i64 0), (9, .int .i64 0), (10, .int .i64 0), (11, .int .i64 0), (12, .bool false), (13, .bool false)])], [(B3, Cells 26 [(0, .int .i64 p.r0.way), (1, .int .i64 p.r0.size), (2, .int .i64 p.r1.way), (3, .int .i64 p.r1.size), (4, .int .i64 p.r2.way), (5, .int .i64 p.r2.size), (6, .int .i64 p.r3.way), (7, .int .i64 p.r3.size), (8, .int .i64 p.r4.way), (9, .int .i64 p.r4.size), (10, .int .i64 p.time), (11, .int .i64 p.note), (12, .bool p.loose), (13, .bool p.force)])]] ∧ Env a' 65 [] [(0, str s), (3, .pointer (some ⟨B3, 0, none⟩)), (4, .int .i64 0), (5, .pointer (some ⟨B5, 0, none⟩)), (6, .int .i64 1), (7, .int .i64 ((wv : Nat) : Int))] ∧ (wv ≤ 4 ∧ ∀ w' n' : Nat, w' < wv → n' ≤ 16 → matchS s 1 w' n' = false)) (fun (wv : Nat) => 4 - wv) 0 ⟨HS, HE.cut ⟨rfl, rfl, rfl, rfl, rfl, rfl, trivial⟩, ⟨Nat.zero_le _, fun _ _ h => absurd h (Nat.not_lt_zero _)⟩⟩ ?_
        clear HE HS; intro wv a w ⟨HS, HE, ⟨hw, hnw⟩⟩
        refine wp_seq_k (fun K47 hK46 => ?_)
        refine wp_seq_k (fun K hK => ?_); refine wp_region_lit ?_
        refine o_move HE rfl rfl ?_; clear HE; intro a HE
        refine o_leq HE rfl rfl rfl ?_; clear HE; intro a HE
        refine hK _ _ ?_; clear hK K
        refine cond HE rfl (fun h49 => ?_) (fun h49 => ?_)
        · have h49r := h49; try simp only [Bool.not_eq_true', Bool.not_eq_false', Bool.and_eq_true, Bool.or_eq_true, Bool.or_eq_false_iff, Bool.and_eq_false_iff, decide_eq_true_eq, decide_eq_false_iff_not, beq_iff_eq, beq_eq_false_iff_ne, ne_eq] at h49
          refine wp_skip ?_
          refine hK46 _ _ ?_; clear hK46
          refine wp_seq_k (fun K51 hK50 => ?_)
          refine wp_block ?_
          refine wp_seq_k (fun K hK => ?_); refine wp_region_lit ?_
          refine o_assign HE rfl rfl ?_; clear HE; intro a HE
          refine hK _ _ ?_; clear hK K
          refine wp_block ?_
          refine loop (fun (n : Nat) a' w' => St w0 G [] G w' [[(B5, Cells 26 [(0, .int .i64 0), (1, .int .i64 0), (2, .int .i64 0), (3, .int .i64 0), (4, .int .i64 0), (5, .int .i64 0), (6, .int .i64 0), (7, .int .i64 0), (8, .int .i64 0), (9, .int .i64 0), (10, .int .i64 0), (11, .int .i64 0), (12, .bool false), (13, .bool false)])], [(B3, Cells 26 [(0, .int .i64 p.r0.way), (1, .int .i64 p.r0.size), (2, .int .i64 p.r1.way), (3, .int .i64 p.r1.size), (4, .int .i64 p.r2.way), (5, .int .i64 p.r2.size), (6, .int .i64 p.r3.way), (7, .int .i64 p.r3.size), (8, .int .i64 p.r4.way), (9, .int .i64 p.r4.size), (10, .int .i64 p.time), (11, .int .i64 p.note), (12, .bool p.loose), (13, .bool p.force)])]] ∧ Env a' 65 [] [(0, str s), (3, .pointer (some ⟨B3, 0, none⟩)), (4, .int .i64 0), (5, .pointer (some ⟨B5, 0, none⟩)), (6, .int .i64 1), (7, .int .i64 ((wv : Nat) : Int)), (8, .int .i64 ((n : Nat) : Int))] ∧ (n ≤ 17 ∧ ∀ n' : Nat, n' < n → matchS s 1 wv n' = false)) (fun (n : Nat) => 17 - n) 0 ⟨HS, HE.cut ⟨rfl, rfl, rfl, rfl, rfl, rfl, rfl, trivial⟩, ⟨Nat.zero_le _, fun _ h => absurd h (Nat.not_lt_zero _)⟩⟩ ?_
          clear HE HS; intro n a w ⟨HS, HE, ⟨hn, hnn⟩⟩
          refine wp_seq_k (fun K55 hK54 => ?_)
          refine wp_seq_k (fun K hK => ?_); refine wp_region_lit ?_
          refine o_move HE rfl rfl ?_; clear HE; intro a HE
          refine o_leq HE rfl rfl rfl ?_; clear HE; intro a HE
          refine hK _ _ ?_; clear hK K
          refine cond HE rfl (fun h57 => ?_) (fun h57 => ?_)
          · have h57r := h57; try simp only [Bool.not_eq_true', Bool.not_eq_false', Bool.and_eq_true, Bool.or_eq_true, Bool.or_eq_false_iff, Bool.and_eq_false_iff, decide_eq_true_eq, decide_eq_false_iff_not, beq_iff_eq, beq_eq_false_iff_ne, ne_eq] at h57
            refine wp_skip ?_
            refine hK54 _ _ ?_; clear hK54
            refine wp_seq_k (fun K59 hK58 => ?_)
            refine wp_block ?_
            refine wp_seq_k (fun K hK => ?_); refine wp_region_lit ?_
            refine o_move HE rfl rfl ?_; clear HE; intro a HE
            refine o_move HE rfl rfl ?_; clear HE; intro a HE
            refine o_build (cs := #[.int .i64 ((wv : Nat) : Int), .int .i64 ((n : Nat) : Int)]) HE rfl rfl (by kernel_rfl) ?_; clear HE; intro a HE
            refine o_allocL [(0, _), (1, _)] HE rfl HS T.z23 ⟨rfl, rfl, trivial⟩ ?_; clear HE HS; intro B9 w a HS HE
            refine o_stA HE HS rfl rfl rfl T.a23 (.here .here) rfl ?_; clear HS; intro w HS
            refine hK _ _ ?_; clear hK K
            refine wp_seq_k (fun K hK => ?_); refine wp_region_lit ?_
            refine o_move HE rfl rfl ?_; clear HE; intro a HE
            refine o_ldA HE rfl HS rfl T.a23 (.here .here) rfl ?_; clear HE; intro a HE
            refine o_callP HE rfl HS rfl rfl T.g34 (c_Ruled 1 (⟨((wv : Nat) : Int), ((n : Nat) : Int)⟩ : Rul) _ _ HS.sub) ?_
            clear HE HS; rintro _ w a HS rfl HE
            refine o_move HE rfl rfl ?_; clear HE; intro a HE
            obtain ⟨M0, hM0, HS⟩ : ∃ M0, M0 = _ ∧ St w0 G [] G _ M0 := ⟨_, rfl, HS⟩
            refine cutL 6 (fun a' w' => St w0 G [] G w' M0 ∧ Env a' 65 [] [(34, .bool ((ruledB 1 ⟨((wv : Nat) : Int), ((n : Nat) : Int)⟩) && ((saidS 1 (⟨((wv : Nat) : Int), ((n : Nat) : Int)⟩ : Rul)) == s))), (0, str s), (3, .pointer (some ⟨B3, 0, none⟩)), (4, .int .i64 0), (5, .pointer (some ⟨B5, 0, none⟩)), (6, .int .i64 1), (7, .int .i64 ((wv : Nat) : Int)), (8, .int .i64 ((n : Nat) : Int)), (9, .pointer (some ⟨B9, 0, none⟩)), (18, .int .i64 ((n : Nat) : Int)), (19, .bool (decide (((n : Nat) : Int) ≤ 16))), (22, .int .i64 ((wv : Nat) : Int)), (23, .int .i64 ((n : Nat) : Int)), (24, .agg #[.int .i64 ((wv : Nat) : Int), .int .i64 ((n : Nat) : Int)])]) ?_ ?_
            · refine (Bool.eq_false_or_eq_true (ruledB 1 ⟨((wv : Nat) : Int), ((n : Nat) : Int)⟩)).elim (fun hb61 => ?_) (fun hb61 => ?_)
              · subst hM0
                have hk62 := hb61; try simp only [Bool.not_eq_true', Bool.not_eq_false', Bool.and_eq_true, Bool.or_eq_true, Bool.or_eq_false_iff, decide_eq_true_eq, decide_eq_false_iff_not, beq_iff_eq, beq_eq_false_iff_ne, ne_eq] at hk62
                refine op_on HE rfl rfl hb61 ?_
                refine o_move HE rfl rfl ?_; clear HE; intro a HE
                refine op_on HE rfl rfl hb61 ?_
                refine o_ldA HE rfl HS rfl T.a23 (.here .here) rfl ?_; clear HE; intro a HE
                refine op_on HE rfl rfl hb61 ?_
                refine o_callP HE rfl HS rfl rfl T.g35 (c_said 1 (⟨((wv : Nat) : Int), ((n : Nat) : Int)⟩ : Rul) _ _ HS.sub (by first | assumption | (constructor <;> dsimp only <;> omega))) ?_
                clear HE HS; rintro _ w a HS rfl HE
                refine op_on HE rfl rfl hb61 ?_
                refine o_move HE rfl rfl ?_; clear HE; intro a HE
                refine op_on HE rfl rfl hb61 ?_
                refine o_eqS HE rfl rfl rfl ?_; clear HE; intro a HE
                refine o_pick_t HE rfl rfl hb61 rfl ?_; clear HE; intro a HE
                exact ⟨HS, HE.cut ⟨by rw [hb61]; rfl, rfl, rfl, rfl, rfl, rfl, rfl, rfl, rfl, rfl, rfl, rfl, rfl, rfl, trivial⟩⟩
              · subst hM0
                have hk63 := hb61; try simp only [Bool.not_eq_true', Bool.not_eq_false', Bool.and_eq_true, Bool.or_eq_true, Bool.or_eq_false_iff, decide_eq_true_eq, decide_eq_false_iff_not, beq_iff_eq, beq_eq_false_iff_ne, ne_eq] at hk63
                refine g_off HE rfl rfl rfl hb61 ?_; clear HE; intro a HE
                refine g_off HE rfl rfl rfl hb61 ?_; clear HE; intro a HE
                refine g_off HE rfl rfl rfl hb61 ?_; clear HE; intro a HE
                refine g_off HE rfl rfl rfl hb61 ?_; clear HE; intro a HE
                refine g_off HE rfl rfl rfl hb61 ?_; clear HE; intro a HE
                refine o_pick_f HE rfl rfl hb61 rfl ?_; clear HE; intro a HE
                exact ⟨HS, HE.cut ⟨by rw [hb61]; rfl, rfl, rfl, rfl, rfl, rfl, rfl, rfl, rfl, rfl, rfl, rfl, rfl, rfl, trivial⟩⟩
            clear HE HS; rintro a w ⟨HS, HE⟩; subst hM0
            refine hK _ _ ?_; clear hK K
            refine cond HE rfl (fun h65 => ?_) (fun h65 => ?_)
            · have h65r := h65; try simp only [Bool.not_eq_true', Bool.not_eq_false', Bool.and_eq_true, Bool.or_eq_true, Bool.or_eq_false_iff, Bool.and_eq_false_iff, decide_eq_true_eq, decide_eq_false_iff_not, beq_iff_eq, beq_eq_false_iff_ne, ne_eq] at h65
              refine wp_seq_k (fun K hK => ?_); refine wp_region_lit ?_
              refine o_move HE rfl rfl ?_; clear HE; intro a HE
              refine o_ldA HE rfl HS rfl T.a23 (.here .here) rfl ?_; clear HE; intro a HE
              refine o_fld HE rfl rfl T.f26_0 ?_; clear HE; intro a HE
              refine o_ixA HE rfl rfl rfl T.r24 (by decide) ?_; clear HE; intro a HE
              refine o_stA HE HS rfl rfl rfl T.a23 (.there (.there (.here .here))) rfl ?_; clear HS; intro w HS
              refine hK _ _ ?_; clear hK K
              refine wp_seq_k (fun K68 hK67 => ?_)
              replace HS := HS.conv (L2 := [(0, _), (1, _)]) (.here .here) ⟨rfl, rfl, trivial⟩
              replace HS := HS.conv (L2 := [(0, _), (1, _), (2, _), (3, _), (4, _), (5, _), (6, _), (7, _), (8, _), (9, _), (10, _), (11, _), (12, _), (13, _)]) (.there (.there (.here .here))) ⟨rfl, rfl, rfl, rfl, rfl, rfl, rfl, rfl, rfl, rfl, rfl, rfl, rfl, rfl, trivial⟩
              replace HE := HE.cut (L' := [(0, str s), (3, .pointer (some ⟨B3, 0, none⟩)), (5, .pointer (some ⟨B5, 0, none⟩)), (6, .int .i64 1), (7, .int .i64 ((wv : Nat) : Int)), (8, .int .i64 ((n : Nat) : Int)), (9, .pointer (some ⟨B9, 0, none⟩)), (18, .int .i64 ((n : Nat) : Int)), (19, .bool (decide (((n : Nat) : Int) ≤ 16))), (22, .int .i64 ((wv : Nat) : Int)), (23, .int .i64 ((n : Nat) : Int)), (24, .agg #[.int .i64 ((wv : Nat) : Int), .int .i64 ((n : Nat) : Int)]), (34, .bool ((ruledB 1 ⟨((wv : Nat) : Int), ((n : Nat) : Int)⟩) && ((saidS 1 (⟨((wv : Nat) : Int), ((n : Nat) : Int)⟩ : Rul)) == s))), (35, .int .i64 1), (36, .agg #[.int .i64 ((wv : Nat) : Int), .int .i64 ((n : Nat) : Int)]), (37, .pointer (some ⟨B3, 0, none⟩)), (38, .pointer (some ⟨B3, 2, none⟩))]) ⟨rfl, rfl, rfl, rfl, rfl, rfl, rfl, rfl, rfl, rfl, rfl, rfl, rfl, rfl, rfl, rfl, rfl, trivial⟩
              refine drawnF (fun f G' w => Heap.le G G' ∧ St w0 G [] G' w [[(B9, Cells 23 [(0, .int .i64 ((wv : Nat) : Int)), (1, .int .i64 ((n : Nat) : Int))])], [(B5, Cells 26 [(0, bif f 3 then .int .i64 p.r0.way else .int .i64 0), (1, bif f 3 then .int .i64 p.r0.size else .int .i64 0), (2, bif f 3 then .int .i64 ((wv : Nat) : Int) else .int .i64 0), (3, bif f 3 then .int .i64 ((n : Nat) : Int) else .int .i64 0), (4, bif f 3 then .int .i64 p.r2.way else .int .i64 0), (5, bif f 3 then .int .i64 p.r2.size else .int .i64 0), (6, bif f 3 then .int .i64 p.r3.way else .int .i64 0), (7, bif f 3 then .int .i64 p.r3.size else .int .i64 0), (8, bif f 3 then .int .i64 p.r4.way else .int .i64 0), (9, bif f 3 then .int .i64 p.r4.size else .int .i64 0), (10, bif f 3 then .int .i64 p.time else .int .i64 0), (11, bif f 3 then .int .i64 p.note else .int .i64 0), (12, bif f 3 then .bool p.loose else .bool false), (13, bif f 3 then .bool p.force else .bool false)])], [(B3, Cells 26 [(0, .int .i64 p.r0.way), (1, .int .i64 p.r0.size), (2, .int .i64 ((wv : Nat) : Int)), (3, .int .i64 ((n : Nat) : Int)), (4, .int .i64 p.r2.way), (5, .int .i64 p.r2.size), (6, .int .i64 p.r3.way), (7, .int .i64 p.r3.size), (8, .int .i64 p.r4.way), (9, .int .i64 p.r4.size), (10, .int .i64 p.time), (11, .int .i64 p.note), (12, .bool p.loose), (13, .bool p.force)])]]) [fun v _ => v = .int .i64 1, fun v _ => v = .agg #[.int .i64 p.r0.way, .int .i64 p.r0.size, .int .i64 ((wv : Nat) : Int), .int .i64 ((n : Nat) : Int), .int .i64 p.r2.way, .int .i64 p.r2.size, .int .i64 p.r3.way, .int .i64 p.r3.size, .int .i64 p.r4.way, .int .i64 p.r4.size, .int .i64 p.time, .int .i64 p.note, .bool p.loose, .bool p.force], fun v _ => v = .int .i64 1, fun _ _ => True] [] T.mix rfl HE ⟨Heap.le.refl _, HS.drew⟩ rfl (by simp) (AllM.get ⟨fun _ _ _ _ h => h, fun _ _ _ _ h => h, fun _ _ _ _ h => h, fun _ _ _ _ h => h, trivial⟩) ⟨?_, ?_, ?_, ?_, trivial⟩ ?_
              · intro a w G1 f hcl hfi hon hW HE hp hO; obtain ⟨hl, HS⟩ := hW
                refine o_move HE rfl rfl ?_; clear HE; intro a HE
                exact ⟨_, _, Heap.le.refl _, ⟨hl, HS⟩, fun d hd => (by cases hd; exact HE.get _ _ rfl), HE.defers, rfl⟩
              · intro a w G1 f hcl hfi hon hW HE hp hO; obtain ⟨hl, HS⟩ := hW
                refine o_ldA HE rfl HS rfl T.a26 (.there (.there (.here .here))) rfl ?_; clear HE; intro a HE
                exact ⟨_, _, Heap.le.refl _, ⟨hl, HS⟩, fun d hd => (by cases hd; exact HE.get _ _ rfl), HE.defers, rfl⟩
              · intro a w G1 f hcl hfi hon hW HE hp hO; obtain ⟨hl, HS⟩ := hW
                obtain ⟨_, e0, rfl⟩ := hp 0 39 _ (hon 0 rfl) rfl rfl; replace HE := HE.add e0
                refine o_assign HE rfl rfl ?_; clear HE; intro a HE
                exact ⟨_, _, Heap.le.refl _, ⟨hl, HS⟩, fun d hd => (by cases hd; exact HE.get _ _ rfl), HE.defers, rfl⟩
              · intro a w G1 f hcl hfi hon hW HE hp hO; obtain ⟨hl, HS⟩ := hW
                obtain ⟨_, e1, rfl⟩ := hp 1 40 _ (hon 1 rfl) rfl rfl; replace HE := HE.add e1
                refine o_stA HE HS rfl rfl rfl T.a26 (.there (.here .here)) rfl ?_; clear HS; intro w HS
                replace HS := HS.conv (L2 := [(0, _), (1, _), (2, _), (3, _), (4, _), (5, _), (6, _), (7, _), (8, _), (9, _), (10, _), (11, _), (12, _), (13, _)]) (.there (.here .here)) ⟨rfl, rfl, rfl, rfl, rfl, rfl, rfl, rfl, rfl, rfl, rfl, rfl, rfl, rfl, trivial⟩
                exact ⟨.bool true, _, Heap.le.refl _, ⟨hl, HS⟩, fun d hd => (by cases hd), HE.defers, trivial⟩
              clear HE HS; intro a w G69 f hle70 hall HW HE hp; obtain ⟨_, HS⟩ := HW
              have hfw3 := hall 3 (by decide)
              simp only [hfw3, cond_true] at HS
              obtain ⟨_, e2, rfl⟩ := hp 2 4 _ rfl rfl; replace HE := HE.add e2
              clear hp hall
              refine hK67 _ _ ?_; clear hK67
              refine wp_ret ?_
              show Q .ret _ _
              refine ret hQ HE rfl (HE.res rfl (HE.resA HS rfl T.a26 (.there (.here .here)) rfl .nil)) ⟨_, _, HS.stop (List.nil_sublist _), rfl, ?_⟩
              have hm : matchS s 1 wv n = true := h65r
              have e : lineR s p = (1, (⟨⟨p.r0.way, p.r0.size⟩, ⟨((wv : Nat) : Int), ((n : Nat) : Int)⟩, ⟨p.r2.way, p.r2.size⟩, ⟨p.r3.way, p.r3.size⟩, ⟨p.r4.way, p.r4.size⟩, p.time, p.note, p.loose, p.force⟩ : Pol)) := lineR_hit (d := 1) (by decide) (by omega) (by omega) hm
              show _ = _
              rw [e]
              rfl
            · have h65r := h65; try simp only [Bool.not_eq_true', Bool.not_eq_false', Bool.and_eq_true, Bool.or_eq_true, Bool.or_eq_false_iff, Bool.and_eq_false_iff, decide_eq_true_eq, decide_eq_false_iff_not, beq_iff_eq, beq_eq_false_iff_ne, ne_eq] at h65
              refine wp_skip ?_
              refine hK58 _ _ ?_; clear hK58
              refine wp_region_lit ?_
              refine o_move HE rfl rfl ?_; clear HE; intro a HE
              refine o_add HE rfl rfl rfl (by omega) ?_; clear HE; intro a HE
              refine o_assign HE rfl rfl ?_; clear HE; intro a HE
              replace HS := HS.drop (M' := [_, _]) (sub_drop (sub_keep (sub_keep sub_nil)))
              have hnn2 : ∀ n' : Nat, n' < n + 1 → matchS s 1 wv n' = false := fun n' hn' => by
                by_cases e : n' = n
                · subst e; exact h65r
                · exact hnn n' (by omega)
              exact ⟨n + 1, ⟨HS, HE.cut ⟨rfl, rfl, rfl, rfl, rfl, rfl, rfl, trivial⟩, ⟨by omega, hnn2⟩⟩, by omega⟩
          · have h57r := h57; try simp only [Bool.not_eq_true', Bool.not_eq_false', Bool.and_eq_true, Bool.or_eq_true, Bool.or_eq_false_iff, Bool.and_eq_false_iff, decide_eq_true_eq, decide_eq_false_iff_not, beq_iff_eq, beq_eq_false_iff_ne, ne_eq] at h57
            refine wp_exit ?_
            refine hK50 _ _ ?_; clear hK50
            refine wp_region_lit ?_
            refine o_move HE rfl rfl ?_; clear HE; intro a HE
            refine o_add HE rfl rfl rfl (by omega) ?_; clear HE; intro a HE
            skip
            refine o_assign HE rfl rfl ?_; clear HE; intro a HE
            have hnw2 : ∀ w' n' : Nat, w' < wv + 1 → n' ≤ 16 → matchS s 1 w' n' = false := fun w' n' hw' hn' => by
              by_cases e : w' = wv
              · subst e; exact hnn n' (by omega)
              · exact hnw w' n' (by omega) hn'
            exact ⟨wv + 1, ⟨HS, HE.cut ⟨rfl, rfl, rfl, rfl, rfl, rfl, trivial⟩, ⟨by omega, hnw2⟩⟩, by omega⟩
        · have h49r := h49; try simp only [Bool.not_eq_true', Bool.not_eq_false', Bool.and_eq_true, Bool.or_eq_true, Bool.or_eq_false_iff, Bool.and_eq_false_iff, decide_eq_true_eq, decide_eq_false_iff_not, beq_iff_eq, beq_eq_false_iff_ne, ne_eq] at h49
          refine wp_exit ?_
          refine hK42 _ _ ?_; clear hK42
          refine wp_region_lit ?_
          have hd1 : ∀ w' n' : Nat, w' < 4 → n' ≤ 16 → matchS s 1 w' n' = false := fun w' n' hw' hn' => hnw w' n' (by omega) hn'
          refine o_move HE rfl rfl ?_; clear HE; intro a HE
          refine o_add HE rfl rfl rfl (by omega) ?_; clear HE; intro a HE
          refine o_assign HE rfl rfl ?_; clear HE; intro a HE
          show Code.rounds _ _ _ _ _ _
          replace HE := HE.cut (L' := [(0, str s), (3, .pointer (some ⟨B3, 0, none⟩)), (4, .int .i64 0), (5, .pointer (some ⟨B5, 0, none⟩)), (6, .int .i64 2)]) ⟨rfl, rfl, rfl, rfl, rfl, trivial⟩
          rw [rounds_succ]
          refine wp_seq_k (fun K72 hK71 => ?_)
          refine wp_seq_k (fun K hK => ?_); refine wp_region_lit ?_
          skip
          refine o_move HE rfl rfl ?_; clear HE; intro a HE
          refine o_lss HE rfl rfl rfl ?_; clear HE; intro a HE
          refine hK _ _ ?_; clear hK K
          refine cond HE rfl (fun h74 => ?_) (fun h74 => ?_)
          · have h74r := h74; try simp only [Bool.not_eq_true', Bool.not_eq_false', Bool.and_eq_true, Bool.or_eq_true, Bool.or_eq_false_iff, Bool.and_eq_false_iff, decide_eq_true_eq, decide_eq_false_iff_not, beq_iff_eq, beq_eq_false_iff_ne, ne_eq] at h74
            refine wp_skip ?_
            refine hK71 _ _ ?_; clear hK71
            refine wp_seq_k (fun K76 hK75 => ?_)
            refine wp_block ?_
            refine wp_seq_k (fun K hK => ?_); refine wp_region_lit ?_
            skip
            refine o_assign HE rfl rfl ?_; clear HE; intro a HE
            refine hK _ _ ?_; clear hK K
            refine wp_block ?_
            refine loop (fun (wv : Nat) a' w' => St w0 G [] G w' [[(B5, Cells 26 [(0, .int .i64 0), (1, .int .i64 0), (2, .int .i64 0), (3, .int .i64 0), (4, .int .i64 0), (5, .int .i64 0), (6, .int .i64 0), (7, .int .i64 0), (8, .int .i64 0), (9, .int .i64 0), (10, .int .i64 0), (11, .int .i64 0), (12, .bool false), (13, .bool false)])], [(B3, Cells 26 [(0, .int .i64 p.r0.way), (1, .int .i64 p.r0.size), (2, .int .i64 p.r1.way), (3, .int .i64 p.r1.size), (4, .int .i64 p.r2.way), (5, .int .i64 p.r2.size), (6, .int .i64 p.r3.way), (7, .int .i64 p.r3.size), (8, .int .i64 p.r4.way), (9, .int .i64 p.r4.size), (10, .int .i64 p.time), (11, .int .i64 p.note), (12, .bool p.loose), (13, .bool p.force)])]] ∧ Env a' 65 [] [(0, str s), (3, .pointer (some ⟨B3, 0, none⟩)), (4, .int .i64 0), (5, .pointer (some ⟨B5, 0, none⟩)), (6, .int .i64 2), (7, .int .i64 ((wv : Nat) : Int))] ∧ (wv ≤ 4 ∧ ∀ w' n' : Nat, w' < wv → n' ≤ 16 → matchS s 2 w' n' = false)) (fun (wv : Nat) => 4 - wv) 0 ⟨HS, HE.cut ⟨rfl, rfl, rfl, rfl, rfl, rfl, trivial⟩, ⟨Nat.zero_le _, fun _ _ h => absurd h (Nat.not_lt_zero _)⟩⟩ ?_
            clear HE HS; intro wv a w ⟨HS, HE, ⟨hw, hnw⟩⟩
            refine wp_seq_k (fun K80 hK79 => ?_)
            refine wp_seq_k (fun K hK => ?_); refine wp_region_lit ?_
            refine o_move HE rfl rfl ?_; clear HE; intro a HE
            refine o_leq HE rfl rfl rfl ?_; clear HE; intro a HE
            refine hK _ _ ?_; clear hK K
            refine cond HE rfl (fun h82 => ?_) (fun h82 => ?_)
            · have h82r := h82; try simp only [Bool.not_eq_true', Bool.not_eq_false', Bool.and_eq_true, Bool.or_eq_true, Bool.or_eq_false_iff, Bool.and_eq_false_iff, decide_eq_true_eq, decide_eq_false_iff_not, beq_iff_eq, beq_eq_false_iff_ne, ne_eq] at h82
              refine wp_skip ?_
              refine hK79 _ _ ?_; clear hK79
              refine wp_seq_k (fun K84 hK83 => ?_)
              refine wp_block ?_
              refine wp_seq_k (fun K hK => ?_); refine wp_region_lit ?_
              refine o_assign HE rfl rfl ?_; clear HE; intro a HE
              refine hK _ _ ?_; clear hK K
              refine wp_block ?_
              refine loop (fun (n : Nat) a' w' => St w0 G [] G w' [[(B5, Cells 26 [(0, .int .i64 0), (1, .int .i64 0), (2, .int .i64 0), (3, .int .i64 0), (4, .int .i64 0), (5, .int .i64 0), (6, .int .i64 0), (7, .int .i64 0), (8, .int .i64 0), (9, .int .i64 0), (10, .int .i64 0), (11, .int .i64 0), (12, .bool false), (13, .bool false)])], [(B3, Cells 26 [(0, .int .i64 p.r0.way), (1, .int .i64 p.r0.size), (2, .int .i64 p.r1.way), (3, .int .i64 p.r1.size), (4, .int .i64 p.r2.way), (5, .int .i64 p.r2.size), (6, .int .i64 p.r3.way), (7, .int .i64 p.r3.size), (8, .int .i64 p.r4.way), (9, .int .i64 p.r4.size), (10, .int .i64 p.time), (11, .int .i64 p.note), (12, .bool p.loose), (13, .bool p.force)])]] ∧ Env a' 65 [] [(0, str s), (3, .pointer (some ⟨B3, 0, none⟩)), (4, .int .i64 0), (5, .pointer (some ⟨B5, 0, none⟩)), (6, .int .i64 2), (7, .int .i64 ((wv : Nat) : Int)), (8, .int .i64 ((n : Nat) : Int))] ∧ (n ≤ 17 ∧ ∀ n' : Nat, n' < n → matchS s 2 wv n' = false)) (fun (n : Nat) => 17 - n) 0 ⟨HS, HE.cut ⟨rfl, rfl, rfl, rfl, rfl, rfl, rfl, trivial⟩, ⟨Nat.zero_le _, fun _ h => absurd h (Nat.not_lt_zero _)⟩⟩ ?_
              clear HE HS; intro n a w ⟨HS, HE, ⟨hn, hnn⟩⟩
              refine wp_seq_k (fun K88 hK87 => ?_)
              refine wp_seq_k (fun K hK => ?_); refine wp_region_lit ?_
              refine o_move HE rfl rfl ?_; clear HE; intro a HE
              refine o_leq HE rfl rfl rfl ?_; clear HE; intro a HE
              refine hK _ _ ?_; clear hK K
              refine cond HE rfl (fun h90 => ?_) (fun h90 => ?_)
              · have h90r := h90; try simp only [Bool.not_eq_true', Bool.not_eq_false', Bool.and_eq_true, Bool.or_eq_true, Bool.or_eq_false_iff, Bool.and_eq_false_iff, decide_eq_true_eq, decide_eq_false_iff_not, beq_iff_eq, beq_eq_false_iff_ne, ne_eq] at h90
                refine wp_skip ?_
                refine hK87 _ _ ?_; clear hK87
                refine wp_seq_k (fun K92 hK91 => ?_)
                refine wp_block ?_
                refine wp_seq_k (fun K hK => ?_); refine wp_region_lit ?_
                refine o_move HE rfl rfl ?_; clear HE; intro a HE
                refine o_move HE rfl rfl ?_; clear HE; intro a HE
                refine o_build (cs := #[.int .i64 ((wv : Nat) : Int), .int .i64 ((n : Nat) : Int)]) HE rfl rfl (by kernel_rfl) ?_; clear HE; intro a HE
                refine o_allocL [(0, _), (1, _)] HE rfl HS T.z23 ⟨rfl, rfl, trivial⟩ ?_; clear HE HS; intro B9 w a HS HE
                refine o_stA HE HS rfl rfl rfl T.a23 (.here .here) rfl ?_; clear HS; intro w HS
                refine hK _ _ ?_; clear hK K
                refine wp_seq_k (fun K hK => ?_); refine wp_region_lit ?_
                refine o_move HE rfl rfl ?_; clear HE; intro a HE
                refine o_ldA HE rfl HS rfl T.a23 (.here .here) rfl ?_; clear HE; intro a HE
                refine o_callP HE rfl HS rfl rfl T.g34 (c_Ruled 2 (⟨((wv : Nat) : Int), ((n : Nat) : Int)⟩ : Rul) _ _ HS.sub) ?_
                clear HE HS; rintro _ w a HS rfl HE
                refine o_move HE rfl rfl ?_; clear HE; intro a HE
                obtain ⟨M0, hM0, HS⟩ : ∃ M0, M0 = _ ∧ St w0 G [] G _ M0 := ⟨_, rfl, HS⟩
                refine cutL 6 (fun a' w' => St w0 G [] G w' M0 ∧ Env a' 65 [] [(34, .bool ((ruledB 2 ⟨((wv : Nat) : Int), ((n : Nat) : Int)⟩) && ((saidS 2 (⟨((wv : Nat) : Int), ((n : Nat) : Int)⟩ : Rul)) == s))), (0, str s), (3, .pointer (some ⟨B3, 0, none⟩)), (4, .int .i64 0), (5, .pointer (some ⟨B5, 0, none⟩)), (6, .int .i64 2), (7, .int .i64 ((wv : Nat) : Int)), (8, .int .i64 ((n : Nat) : Int)), (9, .pointer (some ⟨B9, 0, none⟩)), (18, .int .i64 ((n : Nat) : Int)), (19, .bool (decide (((n : Nat) : Int) ≤ 16))), (22, .int .i64 ((wv : Nat) : Int)), (23, .int .i64 ((n : Nat) : Int)), (24, .agg #[.int .i64 ((wv : Nat) : Int), .int .i64 ((n : Nat) : Int)])]) ?_ ?_
                · refine (Bool.eq_false_or_eq_true (ruledB 2 ⟨((wv : Nat) : Int), ((n : Nat) : Int)⟩)).elim (fun hb94 => ?_) (fun hb94 => ?_)
                  · subst hM0
                    have hk95 := hb94; try simp only [Bool.not_eq_true', Bool.not_eq_false', Bool.and_eq_true, Bool.or_eq_true, Bool.or_eq_false_iff, decide_eq_true_eq, decide_eq_false_iff_not, beq_iff_eq, beq_eq_false_iff_ne, ne_eq] at hk95
                    refine op_on HE rfl rfl hb94 ?_
                    refine o_move HE rfl rfl ?_; clear HE; intro a HE
                    refine op_on HE rfl rfl hb94 ?_
                    refine o_ldA HE rfl HS rfl T.a23 (.here .here) rfl ?_; clear HE; intro a HE
                    refine op_on HE rfl rfl hb94 ?_
                    refine o_callP HE rfl HS rfl rfl T.g35 (c_said 2 (⟨((wv : Nat) : Int), ((n : Nat) : Int)⟩ : Rul) _ _ HS.sub (by first | assumption | (constructor <;> dsimp only <;> omega))) ?_
                    clear HE HS; rintro _ w a HS rfl HE
                    refine op_on HE rfl rfl hb94 ?_
                    refine o_move HE rfl rfl ?_; clear HE; intro a HE
                    refine op_on HE rfl rfl hb94 ?_
                    refine o_eqS HE rfl rfl rfl ?_; clear HE; intro a HE
                    refine o_pick_t HE rfl rfl hb94 rfl ?_; clear HE; intro a HE
                    exact ⟨HS, HE.cut ⟨by rw [hb94]; rfl, rfl, rfl, rfl, rfl, rfl, rfl, rfl, rfl, rfl, rfl, rfl, rfl, rfl, trivial⟩⟩
                  · subst hM0
                    have hk96 := hb94; try simp only [Bool.not_eq_true', Bool.not_eq_false', Bool.and_eq_true, Bool.or_eq_true, Bool.or_eq_false_iff, decide_eq_true_eq, decide_eq_false_iff_not, beq_iff_eq, beq_eq_false_iff_ne, ne_eq] at hk96
                    refine g_off HE rfl rfl rfl hb94 ?_; clear HE; intro a HE
                    refine g_off HE rfl rfl rfl hb94 ?_; clear HE; intro a HE
                    refine g_off HE rfl rfl rfl hb94 ?_; clear HE; intro a HE
                    refine g_off HE rfl rfl rfl hb94 ?_; clear HE; intro a HE
                    refine g_off HE rfl rfl rfl hb94 ?_; clear HE; intro a HE
                    refine o_pick_f HE rfl rfl hb94 rfl ?_; clear HE; intro a HE
                    exact ⟨HS, HE.cut ⟨by rw [hb94]; rfl, rfl, rfl, rfl, rfl, rfl, rfl, rfl, rfl, rfl, rfl, rfl, rfl, rfl, trivial⟩⟩
                clear HE HS; rintro a w ⟨HS, HE⟩; subst hM0
                refine hK _ _ ?_; clear hK K
                refine cond HE rfl (fun h98 => ?_) (fun h98 => ?_)
                · have h98r := h98; try simp only [Bool.not_eq_true', Bool.not_eq_false', Bool.and_eq_true, Bool.or_eq_true, Bool.or_eq_false_iff, Bool.and_eq_false_iff, decide_eq_true_eq, decide_eq_false_iff_not, beq_iff_eq, beq_eq_false_iff_ne, ne_eq] at h98
                  refine wp_seq_k (fun K hK => ?_); refine wp_region_lit ?_
                  refine o_move HE rfl rfl ?_; clear HE; intro a HE
                  refine o_ldA HE rfl HS rfl T.a23 (.here .here) rfl ?_; clear HE; intro a HE
                  refine o_fld HE rfl rfl T.f26_0 ?_; clear HE; intro a HE
                  refine o_ixA HE rfl rfl rfl T.r24 (by decide) ?_; clear HE; intro a HE
                  refine o_stA HE HS rfl rfl rfl T.a23 (.there (.there (.here .here))) rfl ?_; clear HS; intro w HS
                  refine hK _ _ ?_; clear hK K
                  refine wp_seq_k (fun K101 hK100 => ?_)
                  replace HS := HS.conv (L2 := [(0, _), (1, _)]) (.here .here) ⟨rfl, rfl, trivial⟩
                  replace HS := HS.conv (L2 := [(0, _), (1, _), (2, _), (3, _), (4, _), (5, _), (6, _), (7, _), (8, _), (9, _), (10, _), (11, _), (12, _), (13, _)]) (.there (.there (.here .here))) ⟨rfl, rfl, rfl, rfl, rfl, rfl, rfl, rfl, rfl, rfl, rfl, rfl, rfl, rfl, trivial⟩
                  replace HE := HE.cut (L' := [(0, str s), (3, .pointer (some ⟨B3, 0, none⟩)), (5, .pointer (some ⟨B5, 0, none⟩)), (6, .int .i64 2), (7, .int .i64 ((wv : Nat) : Int)), (8, .int .i64 ((n : Nat) : Int)), (9, .pointer (some ⟨B9, 0, none⟩)), (18, .int .i64 ((n : Nat) : Int)), (19, .bool (decide (((n : Nat) : Int) ≤ 16))), (22, .int .i64 ((wv : Nat) : Int)), (23, .int .i64 ((n : Nat) : Int)), (24, .agg #[.int .i64 ((wv : Nat) : Int), .int .i64 ((n : Nat) : Int)]), (34, .bool ((ruledB 2 ⟨((wv : Nat) : Int), ((n : Nat) : Int)⟩) && ((saidS 2 (⟨((wv : Nat) : Int), ((n : Nat) : Int)⟩ : Rul)) == s))), (35, .int .i64 2), (36, .agg #[.int .i64 ((wv : Nat) : Int), .int .i64 ((n : Nat) : Int)]), (37, .pointer (some ⟨B3, 0, none⟩)), (38, .pointer (some ⟨B3, 4, none⟩))]) ⟨rfl, rfl, rfl, rfl, rfl, rfl, rfl, rfl, rfl, rfl, rfl, rfl, rfl, rfl, rfl, rfl, rfl, trivial⟩
                  refine drawnF (fun f G' w => Heap.le G G' ∧ St w0 G [] G' w [[(B9, Cells 23 [(0, .int .i64 ((wv : Nat) : Int)), (1, .int .i64 ((n : Nat) : Int))])], [(B5, Cells 26 [(0, bif f 3 then .int .i64 p.r0.way else .int .i64 0), (1, bif f 3 then .int .i64 p.r0.size else .int .i64 0), (2, bif f 3 then .int .i64 p.r1.way else .int .i64 0), (3, bif f 3 then .int .i64 p.r1.size else .int .i64 0), (4, bif f 3 then .int .i64 ((wv : Nat) : Int) else .int .i64 0), (5, bif f 3 then .int .i64 ((n : Nat) : Int) else .int .i64 0), (6, bif f 3 then .int .i64 p.r3.way else .int .i64 0), (7, bif f 3 then .int .i64 p.r3.size else .int .i64 0), (8, bif f 3 then .int .i64 p.r4.way else .int .i64 0), (9, bif f 3 then .int .i64 p.r4.size else .int .i64 0), (10, bif f 3 then .int .i64 p.time else .int .i64 0), (11, bif f 3 then .int .i64 p.note else .int .i64 0), (12, bif f 3 then .bool p.loose else .bool false), (13, bif f 3 then .bool p.force else .bool false)])], [(B3, Cells 26 [(0, .int .i64 p.r0.way), (1, .int .i64 p.r0.size), (2, .int .i64 p.r1.way), (3, .int .i64 p.r1.size), (4, .int .i64 ((wv : Nat) : Int)), (5, .int .i64 ((n : Nat) : Int)), (6, .int .i64 p.r3.way), (7, .int .i64 p.r3.size), (8, .int .i64 p.r4.way), (9, .int .i64 p.r4.size), (10, .int .i64 p.time), (11, .int .i64 p.note), (12, .bool p.loose), (13, .bool p.force)])]]) [fun v _ => v = .int .i64 2, fun v _ => v = .agg #[.int .i64 p.r0.way, .int .i64 p.r0.size, .int .i64 p.r1.way, .int .i64 p.r1.size, .int .i64 ((wv : Nat) : Int), .int .i64 ((n : Nat) : Int), .int .i64 p.r3.way, .int .i64 p.r3.size, .int .i64 p.r4.way, .int .i64 p.r4.size, .int .i64 p.time, .int .i64 p.note, .bool p.loose, .bool p.force], fun v _ => v = .int .i64 2, fun _ _ => True] [] T.mix rfl HE ⟨Heap.le.refl _, HS.drew⟩ rfl (by simp) (AllM.get ⟨fun _ _ _ _ h => h, fun _ _ _ _ h => h, fun _ _ _ _ h => h, fun _ _ _ _ h => h, trivial⟩) ⟨?_, ?_, ?_, ?_, trivial⟩ ?_
                  · intro a w G1 f hcl hfi hon hW HE hp hO; obtain ⟨hl, HS⟩ := hW
                    refine o_move HE rfl rfl ?_; clear HE; intro a HE
                    exact ⟨_, _, Heap.le.refl _, ⟨hl, HS⟩, fun d hd => (by cases hd; exact HE.get _ _ rfl), HE.defers, rfl⟩
                  · intro a w G1 f hcl hfi hon hW HE hp hO; obtain ⟨hl, HS⟩ := hW
                    refine o_ldA HE rfl HS rfl T.a26 (.there (.there (.here .here))) rfl ?_; clear HE; intro a HE
                    exact ⟨_, _, Heap.le.refl _, ⟨hl, HS⟩, fun d hd => (by cases hd; exact HE.get _ _ rfl), HE.defers, rfl⟩
                  · intro a w G1 f hcl hfi hon hW HE hp hO; obtain ⟨hl, HS⟩ := hW
                    obtain ⟨_, e0, rfl⟩ := hp 0 39 _ (hon 0 rfl) rfl rfl; replace HE := HE.add e0
                    refine o_assign HE rfl rfl ?_; clear HE; intro a HE
                    exact ⟨_, _, Heap.le.refl _, ⟨hl, HS⟩, fun d hd => (by cases hd; exact HE.get _ _ rfl), HE.defers, rfl⟩
                  · intro a w G1 f hcl hfi hon hW HE hp hO; obtain ⟨hl, HS⟩ := hW
                    obtain ⟨_, e1, rfl⟩ := hp 1 40 _ (hon 1 rfl) rfl rfl; replace HE := HE.add e1
                    refine o_stA HE HS rfl rfl rfl T.a26 (.there (.here .here)) rfl ?_; clear HS; intro w HS
                    replace HS := HS.conv (L2 := [(0, _), (1, _), (2, _), (3, _), (4, _), (5, _), (6, _), (7, _), (8, _), (9, _), (10, _), (11, _), (12, _), (13, _)]) (.there (.here .here)) ⟨rfl, rfl, rfl, rfl, rfl, rfl, rfl, rfl, rfl, rfl, rfl, rfl, rfl, rfl, trivial⟩
                    exact ⟨.bool true, _, Heap.le.refl _, ⟨hl, HS⟩, fun d hd => (by cases hd), HE.defers, trivial⟩
                  clear HE HS; intro a w G102 f hle103 hall HW HE hp; obtain ⟨_, HS⟩ := HW
                  have hfw3 := hall 3 (by decide)
                  simp only [hfw3, cond_true] at HS
                  obtain ⟨_, e2, rfl⟩ := hp 2 4 _ rfl rfl; replace HE := HE.add e2
                  clear hp hall
                  refine hK100 _ _ ?_; clear hK100
                  refine wp_ret ?_
                  show Q .ret _ _
                  refine ret hQ HE rfl (HE.res rfl (HE.resA HS rfl T.a26 (.there (.here .here)) rfl .nil)) ⟨_, _, HS.stop (List.nil_sublist _), rfl, ?_⟩
                  have hm : matchS s 2 wv n = true := h98r
                  have e : lineR s p = (2, (⟨⟨p.r0.way, p.r0.size⟩, ⟨p.r1.way, p.r1.size⟩, ⟨((wv : Nat) : Int), ((n : Nat) : Int)⟩, ⟨p.r3.way, p.r3.size⟩, ⟨p.r4.way, p.r4.size⟩, p.time, p.note, p.loose, p.force⟩ : Pol)) := lineR_hit (d := 2) (by decide) (by omega) (by omega) hm
                  show _ = _
                  rw [e]
                  rfl
                · have h98r := h98; try simp only [Bool.not_eq_true', Bool.not_eq_false', Bool.and_eq_true, Bool.or_eq_true, Bool.or_eq_false_iff, Bool.and_eq_false_iff, decide_eq_true_eq, decide_eq_false_iff_not, beq_iff_eq, beq_eq_false_iff_ne, ne_eq] at h98
                  refine wp_skip ?_
                  refine hK91 _ _ ?_; clear hK91
                  refine wp_region_lit ?_
                  refine o_move HE rfl rfl ?_; clear HE; intro a HE
                  refine o_add HE rfl rfl rfl (by omega) ?_; clear HE; intro a HE
                  refine o_assign HE rfl rfl ?_; clear HE; intro a HE
                  replace HS := HS.drop (M' := [_, _]) (sub_drop (sub_keep (sub_keep sub_nil)))
                  have hnn2 : ∀ n' : Nat, n' < n + 1 → matchS s 2 wv n' = false := fun n' hn' => by
                    by_cases e : n' = n
                    · subst e; exact h98r
                    · exact hnn n' (by omega)
                  exact ⟨n + 1, ⟨HS, HE.cut ⟨rfl, rfl, rfl, rfl, rfl, rfl, rfl, trivial⟩, ⟨by omega, hnn2⟩⟩, by omega⟩
              · have h90r := h90; try simp only [Bool.not_eq_true', Bool.not_eq_false', Bool.and_eq_true, Bool.or_eq_true, Bool.or_eq_false_iff, Bool.and_eq_false_iff, decide_eq_true_eq, decide_eq_false_iff_not, beq_iff_eq, beq_eq_false_iff_ne, ne_eq] at h90
                refine wp_exit ?_
                refine hK83 _ _ ?_; clear hK83
                refine wp_region_lit ?_
                refine o_move HE rfl rfl ?_; clear HE; intro a HE
                refine o_add HE rfl rfl rfl (by omega) ?_; clear HE; intro a HE
                skip
                refine o_assign HE rfl rfl ?_; clear HE; intro a HE
                have hnw2 : ∀ w' n' : Nat, w' < wv + 1 → n' ≤ 16 → matchS s 2 w' n' = false := fun w' n' hw' hn' => by
                  by_cases e : w' = wv
                  · subst e; exact hnn n' (by omega)
                  · exact hnw w' n' (by omega) hn'
                exact ⟨wv + 1, ⟨HS, HE.cut ⟨rfl, rfl, rfl, rfl, rfl, rfl, trivial⟩, ⟨by omega, hnw2⟩⟩, by omega⟩
            · have h82r := h82; try simp only [Bool.not_eq_true', Bool.not_eq_false', Bool.and_eq_true, Bool.or_eq_true, Bool.or_eq_false_iff, Bool.and_eq_false_iff, decide_eq_true_eq, decide_eq_false_iff_not, beq_iff_eq, beq_eq_false_iff_ne, ne_eq] at h82
              refine wp_exit ?_
              refine hK75 _ _ ?_; clear hK75
              refine wp_region_lit ?_
              have hd2 : ∀ w' n' : Nat, w' < 4 → n' ≤ 16 → matchS s 2 w' n' = false := fun w' n' hw' hn' => hnw w' n' (by omega) hn'
              refine o_move HE rfl rfl ?_; clear HE; intro a HE
              refine o_add HE rfl rfl rfl (by omega) ?_; clear HE; intro a HE
              refine o_assign HE rfl rfl ?_; clear HE; intro a HE
              show Code.rounds _ _ _ _ _ _
              replace HE := HE.cut (L' := [(0, str s), (3, .pointer (some ⟨B3, 0, none⟩)), (4, .int .i64 0), (5, .pointer (some ⟨B5, 0, none⟩)), (6, .int .i64 3)]) ⟨rfl, rfl, rfl, rfl, rfl, trivial⟩
              rw [rounds_succ]
              refine wp_seq_k (fun K105 hK104 => ?_)
              refine wp_seq_k (fun K hK => ?_); refine wp_region_lit ?_
              skip
              refine o_move HE rfl rfl ?_; clear HE; intro a HE
              refine o_lss HE rfl rfl rfl ?_; clear HE; intro a HE
              refine hK _ _ ?_; clear hK K
              refine cond HE rfl (fun h107 => ?_) (fun h107 => ?_)
              · have h107r := h107; try simp only [Bool.not_eq_true', Bool.not_eq_false', Bool.and_eq_true, Bool.or_eq_true, Bool.or_eq_false_iff, Bool.and_eq_false_iff, decide_eq_true_eq, decide_eq_false_iff_not, beq_iff_eq, beq_eq_false_iff_ne, ne_eq] at h107
                refine wp_skip ?_
                refine hK104 _ _ ?_; clear hK104
                refine wp_seq_k (fun K109 hK108 => ?_)
                refine wp_block ?_
                refine wp_seq_k (fun K hK => ?_); refine wp_region_lit ?_
                skip
                refine o_assign HE rfl rfl ?_; clear HE; intro a HE
                refine hK _ _ ?_; clear hK K
                refine wp_block ?_
                refine loop (fun (wv : Nat) a' w' => St w0 G [] G w' [[(B5, Cells 26 [(0, .int .i64 0), (1, .int .i64 0), (2, .int .i64 0), (3, .int .i64 0), (4, .int .i64 0), (5, .int .i64 0), (6, .int .i64 0), (7, .int .i64 0), (8, .int .i64 0), (9, .int .i64 0), (10, .int .i64 0), (11, .int .i64 0), (12, .bool false), (13, .bool false)])], [(B3, Cells 26 [(0, .int .i64 p.r0.way), (1, .int .i64 p.r0.size), (2, .int .i64 p.r1.way), (3, .int .i64 p.r1.size), (4, .int .i64 p.r2.way), (5, .int .i64 p.r2.size), (6, .int .i64 p.r3.way), (7, .int .i64 p.r3.size), (8, .int .i64 p.r4.way), (9, .int .i64 p.r4.size), (10, .int .i64 p.time), (11, .int .i64 p.note), (12, .bool p.loose), (13, .bool p.force)])]] ∧ Env a' 65 [] [(0, str s), (3, .pointer (some ⟨B3, 0, none⟩)), (4, .int .i64 0), (5, .pointer (some ⟨B5, 0, none⟩)), (6, .int .i64 3), (7, .int .i64 ((wv : Nat) : Int))] ∧ (wv ≤ 4 ∧ ∀ w' n' : Nat, w' < wv → n' ≤ 16 → matchS s 3 w' n' = false)) (fun (wv : Nat) => 4 - wv) 0 ⟨HS, HE.cut ⟨rfl, rfl, rfl, rfl, rfl, rfl, trivial⟩, ⟨Nat.zero_le _, fun _ _ h => absurd h (Nat.not_lt_zero _)⟩⟩ ?_
                clear HE HS; intro wv a w ⟨HS, HE, ⟨hw, hnw⟩⟩
                refine wp_seq_k (fun K113 hK112 => ?_)
                refine wp_seq_k (fun K hK => ?_); refine wp_region_lit ?_
                refine o_move HE rfl rfl ?_; clear HE; intro a HE
                refine o_leq HE rfl rfl rfl ?_; clear HE; intro a HE
                refine hK _ _ ?_; clear hK K
                refine cond HE rfl (fun h115 => ?_) (fun h115 => ?_)
                · have h115r := h115; try simp only [Bool.not_eq_true', Bool.not_eq_false', Bool.and_eq_true, Bool.or_eq_true, Bool.or_eq_false_iff, Bool.and_eq_false_iff, decide_eq_true_eq, decide_eq_false_iff_not, beq_iff_eq, beq_eq_false_iff_ne, ne_eq] at h115
                  refine wp_skip ?_
                  refine hK112 _ _ ?_; clear hK112
                  refine wp_seq_k (fun K117 hK116 => ?_)
                  refine wp_block ?_
                  refine wp_seq_k (fun K hK => ?_); refine wp_region_lit ?_
                  refine o_assign HE rfl rfl ?_; clear HE; intro a HE
                  refine hK _ _ ?_; clear hK K
                  refine wp_block ?_
                  refine loop (fun (n : Nat) a' w' => St w0 G [] G w' [[(B5, Cells 26 [(0, .int .i64 0), (1, .int .i64 0), (2, .int .i64 0), (3, .int .i64 0), (4, .int .i64 0), (5, .int .i64 0), (6, .int .i64 0), (7, .int .i64 0), (8, .int .i64 0), (9, .int .i64 0), (10, .int .i64 0), (11, .int .i64 0), (12, .bool false), (13, .bool false)])], [(B3, Cells 26 [(0, .int .i64 p.r0.way), (1, .int .i64 p.r0.size), (2, .int .i64 p.r1.way), (3, .int .i64 p.r1.size), (4, .int .i64 p.r2.way), (5, .int .i64 p.r2.size), (6, .int .i64 p.r3.way), (7, .int .i64 p.r3.size), (8, .int .i64 p.r4.way), (9, .int .i64 p.r4.size), (10, .int .i64 p.time), (11, .int .i64 p.note), (12, .bool p.loose), (13, .bool p.force)])]] ∧ Env a' 65 [] [(0, str s), (3, .pointer (some ⟨B3, 0, none⟩)), (4, .int .i64 0), (5, .pointer (some ⟨B5, 0, none⟩)), (6, .int .i64 3), (7, .int .i64 ((wv : Nat) : Int)), (8, .int .i64 ((n : Nat) : Int))] ∧ (n ≤ 17 ∧ ∀ n' : Nat, n' < n → matchS s 3 wv n' = false)) (fun (n : Nat) => 17 - n) 0 ⟨HS, HE.cut ⟨rfl, rfl, rfl, rfl, rfl, rfl, rfl, trivial⟩, ⟨Nat.zero_le _, fun _ h => absurd h (Nat.not_lt_zero _)⟩⟩ ?_
                  clear HE HS; intro n a w ⟨HS, HE, ⟨hn, hnn⟩⟩
                  refine wp_seq_k (fun K121 hK120 => ?_)
                  refine wp_seq_k (fun K hK => ?_); refine wp_region_lit ?_
                  refine o_move HE rfl rfl ?_; clear HE; intro a HE
                  refine o_leq HE rfl rfl rfl ?_; clear HE; intro a HE
                  refine hK _ _ ?_; clear hK K
                  refine cond HE rfl (fun h123 => ?_) (fun h123 => ?_)
                  · have h123r := h123; try simp only [Bool.not_eq_true', Bool.not_eq_false', Bool.and_eq_true, Bool.or_eq_true, Bool.or_eq_false_iff, Bool.and_eq_false_iff, decide_eq_true_eq, decide_eq_false_iff_not, beq_iff_eq, beq_eq_false_iff_ne, ne_eq] at h123
                    refine wp_skip ?_
                    refine hK120 _ _ ?_; clear hK120
                    refine wp_seq_k (fun K125 hK124 => ?_)
                    refine wp_block ?_
                    refine wp_seq_k (fun K hK => ?_); refine wp_region_lit ?_
                    refine o_move HE rfl rfl ?_; clear HE; intro a HE
                    refine o_move HE rfl rfl ?_; clear HE; intro a HE
                    refine o_build (cs := #[.int .i64 ((wv : Nat) : Int), .int .i64 ((n : Nat) : Int)]) HE rfl rfl (by kernel_rfl) ?_; clear HE; intro a HE
                    refine o_allocL [(0, _), (1, _)] HE rfl HS T.z23 ⟨rfl, rfl, trivial⟩ ?_; clear HE HS; intro B9 w a HS HE
                    refine o_stA HE HS rfl rfl rfl T.a23 (.here .here) rfl ?_; clear HS; intro w HS
                    refine hK _ _ ?_; clear hK K
                    refine wp_seq_k (fun K hK => ?_); refine wp_region_lit ?_
                    refine o_move HE rfl rfl ?_; clear HE; intro a HE
                    refine o_ldA HE rfl HS rfl T.a23 (.here .here) rfl ?_; clear HE; intro a HE
                    refine o_callP HE rfl HS rfl rfl T.g34 (c_Ruled 3 (⟨((wv : Nat) : Int), ((n : Nat) : Int)⟩ : Rul) _ _ HS.sub) ?_
                    clear HE HS; rintro _ w a HS rfl HE
                    refine o_move HE rfl rfl ?_; clear HE; intro a HE
                    obtain ⟨M0, hM0, HS⟩ : ∃ M0, M0 = _ ∧ St w0 G [] G _ M0 := ⟨_, rfl, HS⟩
                    refine cutL 6 (fun a' w' => St w0 G [] G w' M0 ∧ Env a' 65 [] [(34, .bool ((ruledB 3 ⟨((wv : Nat) : Int), ((n : Nat) : Int)⟩) && ((saidS 3 (⟨((wv : Nat) : Int), ((n : Nat) : Int)⟩ : Rul)) == s))), (0, str s), (3, .pointer (some ⟨B3, 0, none⟩)), (4, .int .i64 0), (5, .pointer (some ⟨B5, 0, none⟩)), (6, .int .i64 3), (7, .int .i64 ((wv : Nat) : Int)), (8, .int .i64 ((n : Nat) : Int)), (9, .pointer (some ⟨B9, 0, none⟩)), (18, .int .i64 ((n : Nat) : Int)), (19, .bool (decide (((n : Nat) : Int) ≤ 16))), (22, .int .i64 ((wv : Nat) : Int)), (23, .int .i64 ((n : Nat) : Int)), (24, .agg #[.int .i64 ((wv : Nat) : Int), .int .i64 ((n : Nat) : Int)])]) ?_ ?_
                    · refine (Bool.eq_false_or_eq_true (ruledB 3 ⟨((wv : Nat) : Int), ((n : Nat) : Int)⟩)).elim (fun hb127 => ?_) (fun hb127 => ?_)
                      · subst hM0
                        have hk128 := hb127; try simp only [Bool.not_eq_true', Bool.not_eq_false', Bool.and_eq_true, Bool.or_eq_true, Bool.or_eq_false_iff, decide_eq_true_eq, decide_eq_false_iff_not, beq_iff_eq, beq_eq_false_iff_ne, ne_eq] at hk128
                        refine op_on HE rfl rfl hb127 ?_
                        refine o_move HE rfl rfl ?_; clear HE; intro a HE
                        refine op_on HE rfl rfl hb127 ?_
                        refine o_ldA HE rfl HS rfl T.a23 (.here .here) rfl ?_; clear HE; intro a HE
                        refine op_on HE rfl rfl hb127 ?_
                        refine o_callP HE rfl HS rfl rfl T.g35 (c_said 3 (⟨((wv : Nat) : Int), ((n : Nat) : Int)⟩ : Rul) _ _ HS.sub (by first | assumption | (constructor <;> dsimp only <;> omega))) ?_
                        clear HE HS; rintro _ w a HS rfl HE
                        refine op_on HE rfl rfl hb127 ?_
                        refine o_move HE rfl rfl ?_; clear HE; intro a HE
                        refine op_on HE rfl rfl hb127 ?_
                        refine o_eqS HE rfl rfl rfl ?_; clear HE; intro a HE
                        refine o_pick_t HE rfl rfl hb127 rfl ?_; clear HE; intro a HE
                        exact ⟨HS, HE.cut ⟨by rw [hb127]; rfl, rfl, rfl, rfl, rfl, rfl, rfl, rfl, rfl, rfl, rfl, rfl, rfl, rfl, trivial⟩⟩
                      · subst hM0
                        have hk129 := hb127; try simp only [Bool.not_eq_true', Bool.not_eq_false', Bool.and_eq_true, Bool.or_eq_true, Bool.or_eq_false_iff, decide_eq_true_eq, decide_eq_false_iff_not, beq_iff_eq, beq_eq_false_iff_ne, ne_eq] at hk129
                        refine g_off HE rfl rfl rfl hb127 ?_; clear HE; intro a HE
                        refine g_off HE rfl rfl rfl hb127 ?_; clear HE; intro a HE
                        refine g_off HE rfl rfl rfl hb127 ?_; clear HE; intro a HE
                        refine g_off HE rfl rfl rfl hb127 ?_; clear HE; intro a HE
                        refine g_off HE rfl rfl rfl hb127 ?_; clear HE; intro a HE
                        refine o_pick_f HE rfl rfl hb127 rfl ?_; clear HE; intro a HE
                        exact ⟨HS, HE.cut ⟨by rw [hb127]; rfl, rfl, rfl, rfl, rfl, rfl, rfl, rfl, rfl, rfl, rfl, rfl, rfl, rfl, trivial⟩⟩
                    clear HE HS; rintro a w ⟨HS, HE⟩; subst hM0
                    refine hK _ _ ?_; clear hK K
                    refine cond HE rfl (fun h131 => ?_) (fun h131 => ?_)
                    · have h131r := h131; try simp only [Bool.not_eq_true', Bool.not_eq_false', Bool.and_eq_true, Bool.or_eq_true, Bool.or_eq_false_iff, Bool.and_eq_false_iff, decide_eq_true_eq, decide_eq_false_iff_not, beq_iff_eq, beq_eq_false_iff_ne, ne_eq] at h131
                      refine wp_seq_k (fun K hK => ?_); refine wp_region_lit ?_
                      refine o_move HE rfl rfl ?_; clear HE; intro a HE
                      refine o_ldA HE rfl HS rfl T.a23 (.here .here) rfl ?_; clear HE; intro a HE
                      refine o_fld HE rfl rfl T.f26_0 ?_; clear HE; intro a HE
                      refine o_ixA HE rfl rfl rfl T.r24 (by decide) ?_; clear HE; intro a HE
                      refine o_stA HE HS rfl rfl rfl T.a23 (.there (.there (.here .here))) rfl ?_; clear HS; intro w HS
                      refine hK _ _ ?_; clear hK K
                      refine wp_seq_k (fun K134 hK133 => ?_)
                      replace HS := HS.conv (L2 := [(0, _), (1, _)]) (.here .here) ⟨rfl, rfl, trivial⟩
                      replace HS := HS.conv (L2 := [(0, _), (1, _), (2, _), (3, _), (4, _), (5, _), (6, _), (7, _), (8, _), (9, _), (10, _), (11, _), (12, _), (13, _)]) (.there (.there (.here .here))) ⟨rfl, rfl, rfl, rfl, rfl, rfl, rfl, rfl, rfl, rfl, rfl, rfl, rfl, rfl, trivial⟩
                      replace HE := HE.cut (L' := [(0, str s), (3, .pointer (some ⟨B3, 0, none⟩)), (5, .pointer (some ⟨B5, 0, none⟩)), (6, .int .i64 3), (7, .int .i64 ((wv : Nat) : Int)), (8, .int .i64 ((n : Nat) : Int)), (9, .pointer (some ⟨B9, 0, none⟩)), (18, .int .i64 ((n : Nat) : Int)), (19, .bool (decide (((n : Nat) : Int) ≤ 16))), (22, .int .i64 ((wv : Nat) : Int)), (23, .int .i64 ((n : Nat) : Int)), (24, .agg #[.int .i64 ((wv : Nat) : Int), .int .i64 ((n : Nat) : Int)]), (34, .bool ((ruledB 3 ⟨((wv : Nat) : Int), ((n : Nat) : Int)⟩) && ((saidS 3 (⟨((wv : Nat) : Int), ((n : Nat) : Int)⟩ : Rul)) == s))), (35, .int .i64 3), (36, .agg #[.int .i64 ((wv : Nat) : Int), .int .i64 ((n : Nat) : Int)]), (37, .pointer (some ⟨B3, 0, none⟩)), (38, .pointer (some ⟨B3, 6, none⟩))]) ⟨rfl, rfl, rfl, rfl, rfl, rfl, rfl, rfl, rfl, rfl, rfl, rfl, rfl, rfl, rfl, rfl, rfl, trivial⟩
                      refine drawnF (fun f G' w => Heap.le G G' ∧ St w0 G [] G' w [[(B9, Cells 23 [(0, .int .i64 ((wv : Nat) : Int)), (1, .int .i64 ((n : Nat) : Int))])], [(B5, Cells 26 [(0, bif f 3 then .int .i64 p.r0.way else .int .i64 0), (1, bif f 3 then .int .i64 p.r0.size else .int .i64 0), (2, bif f 3 then .int .i64 p.r1.way else .int .i64 0), (3, bif f 3 then .int .i64 p.r1.size else .int .i64 0), (4, bif f 3 then .int .i64 p.r2.way else .int .i64 0), (5, bif f 3 then .int .i64 p.r2.size else .int .i64 0), (6, bif f 3 then .int .i64 ((wv : Nat) : Int) else .int .i64 0), (7, bif f 3 then .int .i64 ((n : Nat) : Int) else .int .i64 0), (8, bif f 3 then .int .i64 p.r4.way else .int .i64 0), (9, bif f 3 then .int .i64 p.r4.size else .int .i64 0), (10, bif f 3 then .int .i64 p.time else .int .i64 0), (11, bif f 3 then .int .i64 p.note else .int .i64 0), (12, bif f 3 then .bool p.loose else .bool false), (13, bif f 3 then .bool p.force else .bool false)])], [(B3, Cells 26 [(0, .int .i64 p.r0.way), (1, .int .i64 p.r0.size), (2, .int .i64 p.r1.way), (3, .int .i64 p.r1.size), (4, .int .i64 p.r2.way), (5, .int .i64 p.r2.size), (6, .int .i64 ((wv : Nat) : Int)), (7, .int .i64 ((n : Nat) : Int)), (8, .int .i64 p.r4.way), (9, .int .i64 p.r4.size), (10, .int .i64 p.time), (11, .int .i64 p.note), (12, .bool p.loose), (13, .bool p.force)])]]) [fun v _ => v = .int .i64 3, fun v _ => v = .agg #[.int .i64 p.r0.way, .int .i64 p.r0.size, .int .i64 p.r1.way, .int .i64 p.r1.size, .int .i64 p.r2.way, .int .i64 p.r2.size, .int .i64 ((wv : Nat) : Int), .int .i64 ((n : Nat) : Int), .int .i64 p.r4.way, .int .i64 p.r4.size, .int .i64 p.time, .int .i64 p.note, .bool p.loose, .bool p.force], fun v _ => v = .int .i64 3, fun _ _ => True] [] T.mix rfl HE ⟨Heap.le.refl _, HS.drew⟩ rfl (by simp) (AllM.get ⟨fun _ _ _ _ h => h, fun _ _ _ _ h => h, fun _ _ _ _ h => h, fun _ _ _ _ h => h, trivial⟩) ⟨?_, ?_, ?_, ?_, trivial⟩ ?_
                      · intro a w G1 f hcl hfi hon hW HE hp hO; obtain ⟨hl, HS⟩ := hW
                        refine o_move HE rfl rfl ?_; clear HE; intro a HE
                        exact ⟨_, _, Heap.le.refl _, ⟨hl, HS⟩, fun d hd => (by cases hd; exact HE.get _ _ rfl), HE.defers, rfl⟩
                      · intro a w G1 f hcl hfi hon hW HE hp hO; obtain ⟨hl, HS⟩ := hW
                        refine o_ldA HE rfl HS rfl T.a26 (.there (.there (.here .here))) rfl ?_; clear HE; intro a HE
                        exact ⟨_, _, Heap.le.refl _, ⟨hl, HS⟩, fun d hd => (by cases hd; exact HE.get _ _ rfl), HE.defers, rfl⟩
                      · intro a w G1 f hcl hfi hon hW HE hp hO; obtain ⟨hl, HS⟩ := hW
                        obtain ⟨_, e0, rfl⟩ := hp 0 39 _ (hon 0 rfl) rfl rfl; replace HE := HE.add e0
                        refine o_assign HE rfl rfl ?_; clear HE; intro a HE
                        exact ⟨_, _, Heap.le.refl _, ⟨hl, HS⟩, fun d hd => (by cases hd; exact HE.get _ _ rfl), HE.defers, rfl⟩
                      · intro a w G1 f hcl hfi hon hW HE hp hO; obtain ⟨hl, HS⟩ := hW
                        obtain ⟨_, e1, rfl⟩ := hp 1 40 _ (hon 1 rfl) rfl rfl; replace HE := HE.add e1
                        refine o_stA HE HS rfl rfl rfl T.a26 (.there (.here .here)) rfl ?_; clear HS; intro w HS
                        replace HS := HS.conv (L2 := [(0, _), (1, _), (2, _), (3, _), (4, _), (5, _), (6, _), (7, _), (8, _), (9, _), (10, _), (11, _), (12, _), (13, _)]) (.there (.here .here)) ⟨rfl, rfl, rfl, rfl, rfl, rfl, rfl, rfl, rfl, rfl, rfl, rfl, rfl, rfl, trivial⟩
                        exact ⟨.bool true, _, Heap.le.refl _, ⟨hl, HS⟩, fun d hd => (by cases hd), HE.defers, trivial⟩
                      clear HE HS; intro a w G135 f hle136 hall HW HE hp; obtain ⟨_, HS⟩ := HW
                      have hfw3 := hall 3 (by decide)
                      simp only [hfw3, cond_true] at HS
                      obtain ⟨_, e2, rfl⟩ := hp 2 4 _ rfl rfl; replace HE := HE.add e2
                      clear hp hall
                      refine hK133 _ _ ?_; clear hK133
                      refine wp_ret ?_
                      show Q .ret _ _
                      refine ret hQ HE rfl (HE.res rfl (HE.resA HS rfl T.a26 (.there (.here .here)) rfl .nil)) ⟨_, _, HS.stop (List.nil_sublist _), rfl, ?_⟩
                      have hm : matchS s 3 wv n = true := h131r
                      have e : lineR s p = (3, (⟨⟨p.r0.way, p.r0.size⟩, ⟨p.r1.way, p.r1.size⟩, ⟨p.r2.way, p.r2.size⟩, ⟨((wv : Nat) : Int), ((n : Nat) : Int)⟩, ⟨p.r4.way, p.r4.size⟩, p.time, p.note, p.loose, p.force⟩ : Pol)) := lineR_hit (d := 3) (by decide) (by omega) (by omega) hm
                      show _ = _
                      rw [e]
                      rfl
                    · have h131r := h131; try simp only [Bool.not_eq_true', Bool.not_eq_false', Bool.and_eq_true, Bool.or_eq_true, Bool.or_eq_false_iff, Bool.and_eq_false_iff, decide_eq_true_eq, decide_eq_false_iff_not, beq_iff_eq, beq_eq_false_iff_ne, ne_eq] at h131
                      refine wp_skip ?_
                      refine hK124 _ _ ?_; clear hK124
                      refine wp_region_lit ?_
                      refine o_move HE rfl rfl ?_; clear HE; intro a HE
                      refine o_add HE rfl rfl rfl (by omega) ?_; clear HE; intro a HE
                      refine o_assign HE rfl rfl ?_; clear HE; intro a HE
                      replace HS := HS.drop (M' := [_, _]) (sub_drop (sub_keep (sub_keep sub_nil)))
                      have hnn2 : ∀ n' : Nat, n' < n + 1 → matchS s 3 wv n' = false := fun n' hn' => by
                        by_cases e : n' = n
                        · subst e; exact h131r
                        · exact hnn n' (by omega)
                      exact ⟨n + 1, ⟨HS, HE.cut ⟨rfl, rfl, rfl, rfl, rfl, rfl, rfl, trivial⟩, ⟨by omega, hnn2⟩⟩, by omega⟩
                  · have h123r := h123; try simp only [Bool.not_eq_true', Bool.not_eq_false', Bool.and_eq_true, Bool.or_eq_true, Bool.or_eq_false_iff, Bool.and_eq_false_iff, decide_eq_true_eq, decide_eq_false_iff_not, beq_iff_eq, beq_eq_false_iff_ne, ne_eq] at h123
                    refine wp_exit ?_
                    refine hK116 _ _ ?_; clear hK116
                    refine wp_region_lit ?_
                    refine o_move HE rfl rfl ?_; clear HE; intro a HE
                    refine o_add HE rfl rfl rfl (by omega) ?_; clear HE; intro a HE
                    skip
                    refine o_assign HE rfl rfl ?_; clear HE; intro a HE
                    have hnw2 : ∀ w' n' : Nat, w' < wv + 1 → n' ≤ 16 → matchS s 3 w' n' = false := fun w' n' hw' hn' => by
                      by_cases e : w' = wv
                      · subst e; exact hnn n' (by omega)
                      · exact hnw w' n' (by omega) hn'
                    exact ⟨wv + 1, ⟨HS, HE.cut ⟨rfl, rfl, rfl, rfl, rfl, rfl, trivial⟩, ⟨by omega, hnw2⟩⟩, by omega⟩
                · have h115r := h115; try simp only [Bool.not_eq_true', Bool.not_eq_false', Bool.and_eq_true, Bool.or_eq_true, Bool.or_eq_false_iff, Bool.and_eq_false_iff, decide_eq_true_eq, decide_eq_false_iff_not, beq_iff_eq, beq_eq_false_iff_ne, ne_eq] at h115
                  refine wp_exit ?_
                  refine hK108 _ _ ?_; clear hK108
                  refine wp_region_lit ?_
                  have hd3 : ∀ w' n' : Nat, w' < 4 → n' ≤ 16 → matchS s 3 w' n' = false := fun w' n' hw' hn' => hnw w' n' (by omega) hn'
                  refine o_move HE rfl rfl ?_; clear HE; intro a HE
                  refine o_add HE rfl rfl rfl (by omega) ?_; clear HE; intro a HE
                  refine o_assign HE rfl rfl ?_; clear HE; intro a HE
                  show Code.rounds _ _ _ _ _ _
                  replace HE := HE.cut (L' := [(0, str s), (3, .pointer (some ⟨B3, 0, none⟩)), (4, .int .i64 0), (5, .pointer (some ⟨B5, 0, none⟩)), (6, .int .i64 4)]) ⟨rfl, rfl, rfl, rfl, rfl, trivial⟩
                  rw [rounds_succ]
                  refine wp_seq_k (fun K138 hK137 => ?_)
                  refine wp_seq_k (fun K hK => ?_); refine wp_region_lit ?_
                  skip
                  refine o_move HE rfl rfl ?_; clear HE; intro a HE
                  refine o_lss HE rfl rfl rfl ?_; clear HE; intro a HE
                  refine hK _ _ ?_; clear hK K
                  refine cond HE rfl (fun h140 => ?_) (fun h140 => ?_)
                  · have h140r := h140; try simp only [Bool.not_eq_true', Bool.not_eq_false', Bool.and_eq_true, Bool.or_eq_true, Bool.or_eq_false_iff, Bool.and_eq_false_iff, decide_eq_true_eq, decide_eq_false_iff_not, beq_iff_eq, beq_eq_false_iff_ne, ne_eq] at h140
                    refine wp_skip ?_
                    refine hK137 _ _ ?_; clear hK137
                    refine wp_seq_k (fun K142 hK141 => ?_)
                    refine wp_block ?_
                    refine wp_seq_k (fun K hK => ?_); refine wp_region_lit ?_
                    skip
                    refine o_assign HE rfl rfl ?_; clear HE; intro a HE
                    refine hK _ _ ?_; clear hK K
                    refine wp_block ?_
                    refine loop (fun (wv : Nat) a' w' => St w0 G [] G w' [[(B5, Cells 26 [(0, .int .i64 0), (1, .int .i64 0), (2, .int .i64 0), (3, .int .i64 0), (4, .int .i64 0), (5, .int .i64 0), (6, .int .i64 0), (7, .int .i64 0), (8, .int .i64 0), (9, .int .i64 0), (10, .int .i64 0), (11, .int .i64 0), (12, .bool false), (13, .bool false)])], [(B3, Cells 26 [(0, .int .i64 p.r0.way), (1, .int .i64 p.r0.size), (2, .int .i64 p.r1.way), (3, .int .i64 p.r1.size), (4, .int .i64 p.r2.way), (5, .int .i64 p.r2.size), (6, .int .i64 p.r3.way), (7, .int .i64 p.r3.size), (8, .int .i64 p.r4.way), (9, .int .i64 p.r4.size), (10, .int .i64 p.time), (11, .int .i64 p.note), (12, .bool p.loose), (13, .bool p.force)])]] ∧ Env a' 65 [] [(0, str s), (3, .pointer (some ⟨B3, 0, none⟩)), (4, .int .i64 0), (5, .pointer (some ⟨B5, 0, none⟩)), (6, .int .i64 4), (7, .int .i64 ((wv : Nat) : Int))] ∧ (wv ≤ 4 ∧ ∀ w' n' : Nat, w' < wv → n' ≤ 16 → matchS s 4 w' n' = false)) (fun (wv : Nat) => 4 - wv) 0 ⟨HS, HE.cut ⟨rfl, rfl, rfl, rfl, rfl, rfl, trivial⟩, ⟨Nat.zero_le _, fun _ _ h => absurd h (Nat.not_lt_zero _)⟩⟩ ?_
                    clear HE HS; intro wv a w ⟨HS, HE, ⟨hw, hnw⟩⟩
                    refine wp_seq_k (fun K146 hK145 => ?_)
                    refine wp_seq_k (fun K hK => ?_); refine wp_region_lit ?_
                    refine o_move HE rfl rfl ?_; clear HE; intro a HE
                    refine o_leq HE rfl rfl rfl ?_; clear HE; intro a HE
                    refine hK _ _ ?_; clear hK K
                    refine cond HE rfl (fun h148 => ?_) (fun h148 => ?_)
                    · have h148r := h148; try simp only [Bool.not_eq_true', Bool.not_eq_false', Bool.and_eq_true, Bool.or_eq_true, Bool.or_eq_false_iff, Bool.and_eq_false_iff, decide_eq_true_eq, decide_eq_false_iff_not, beq_iff_eq, beq_eq_false_iff_ne, ne_eq] at h148
                      refine wp_skip ?_
                      refine hK145 _ _ ?_; clear hK145
                      refine wp_seq_k (fun K150 hK149 => ?_)
                      refine wp_block ?_
                      refine wp_seq_k (fun K hK => ?_); refine wp_region_lit ?_
                      refine o_assign HE rfl rfl ?_; clear HE; intro a HE
                      refine hK _ _ ?_; clear hK K
                      refine wp_block ?_
                      refine loop (fun (n : Nat) a' w' => St w0 G [] G w' [[(B5, Cells 26 [(0, .int .i64 0), (1, .int .i64 0), (2, .int .i64 0), (3, .int .i64 0), (4, .int .i64 0), (5, .int .i64 0), (6, .int .i64 0), (7, .int .i64 0), (8, .int .i64 0), (9, .int .i64 0), (10, .int .i64 0), (11, .int .i64 0), (12, .bool false), (13, .bool false)])], [(B3, Cells 26 [(0, .int .i64 p.r0.way), (1, .int .i64 p.r0.size), (2, .int .i64 p.r1.way), (3, .int .i64 p.r1.size), (4, .int .i64 p.r2.way), (5, .int .i64 p.r2.size), (6, .int .i64 p.r3.way), (7, .int .i64 p.r3.size), (8, .int .i64 p.r4.way), (9, .int .i64 p.r4.size), (10, .int .i64 p.time), (11, .int .i64 p.note), (12, .bool p.loose), (13, .bool p.force)])]] ∧ Env a' 65 [] [(0, str s), (3, .pointer (some ⟨B3, 0, none⟩)), (4, .int .i64 0), (5, .pointer (some ⟨B5, 0, none⟩)), (6, .int .i64 4), (7, .int .i64 ((wv : Nat) : Int)), (8, .int .i64 ((n : Nat) : Int))] ∧ (n ≤ 17 ∧ ∀ n' : Nat, n' < n → matchS s 4 wv n' = false)) (fun (n : Nat) => 17 - n) 0 ⟨HS, HE.cut ⟨rfl, rfl, rfl, rfl, rfl, rfl, rfl, trivial⟩, ⟨Nat.zero_le _, fun _ h => absurd h (Nat.not_lt_zero _)⟩⟩ ?_
                      clear HE HS; intro n a w ⟨HS, HE, ⟨hn, hnn⟩⟩
                      refine wp_seq_k (fun K154 hK153 => ?_)
                      refine wp_seq_k (fun K hK => ?_); refine wp_region_lit ?_
                      refine o_move HE rfl rfl ?_; clear HE; intro a HE
                      refine o_leq HE rfl rfl rfl ?_; clear HE; intro a HE
                      refine hK _ _ ?_; clear hK K
                      refine cond HE rfl (fun h156 => ?_) (fun h156 => ?_)
                      · have h156r := h156; try simp only [Bool.not_eq_true', Bool.not_eq_false', Bool.and_eq_true, Bool.or_eq_true, Bool.or_eq_false_iff, Bool.and_eq_false_iff, decide_eq_true_eq, decide_eq_false_iff_not, beq_iff_eq, beq_eq_false_iff_ne, ne_eq] at h156
                        refine wp_skip ?_
                        refine hK153 _ _ ?_; clear hK153
                        refine wp_seq_k (fun K158 hK157 => ?_)
                        refine wp_block ?_
                        refine wp_seq_k (fun K hK => ?_); refine wp_region_lit ?_
                        refine o_move HE rfl rfl ?_; clear HE; intro a HE
                        refine o_move HE rfl rfl ?_; clear HE; intro a HE
                        refine o_build (cs := #[.int .i64 ((wv : Nat) : Int), .int .i64 ((n : Nat) : Int)]) HE rfl rfl (by kernel_rfl) ?_; clear HE; intro a HE
                        refine o_allocL [(0, _), (1, _)] HE rfl HS T.z23 ⟨rfl, rfl, trivial⟩ ?_; clear HE HS; intro B9 w a HS HE
                        refine o_stA HE HS rfl rfl rfl T.a23 (.here .here) rfl ?_; clear HS; intro w HS
                        refine hK _ _ ?_; clear hK K
                        refine wp_seq_k (fun K hK => ?_); refine wp_region_lit ?_
                        refine o_move HE rfl rfl ?_; clear HE; intro a HE
                        refine o_ldA HE rfl HS rfl T.a23 (.here .here) rfl ?_; clear HE; intro a HE
                        refine o_callP HE rfl HS rfl rfl T.g34 (c_Ruled 4 (⟨((wv : Nat) : Int), ((n : Nat) : Int)⟩ : Rul) _ _ HS.sub) ?_
                        clear HE HS; rintro _ w a HS rfl HE
                        refine o_move HE rfl rfl ?_; clear HE; intro a HE
                        obtain ⟨M0, hM0, HS⟩ : ∃ M0, M0 = _ ∧ St w0 G [] G _ M0 := ⟨_, rfl, HS⟩
                        refine cutL 6 (fun a' w' => St w0 G [] G w' M0 ∧ Env a' 65 [] [(34, .bool ((ruledB 4 ⟨((wv : Nat) : Int), ((n : Nat) : Int)⟩) && ((saidS 4 (⟨((wv : Nat) : Int), ((n : Nat) : Int)⟩ : Rul)) == s))), (0, str s), (3, .pointer (some ⟨B3, 0, none⟩)), (4, .int .i64 0), (5, .pointer (some ⟨B5, 0, none⟩)), (6, .int .i64 4), (7, .int .i64 ((wv : Nat) : Int)), (8, .int .i64 ((n : Nat) : Int)), (9, .pointer (some ⟨B9, 0, none⟩)), (18, .int .i64 ((n : Nat) : Int)), (19, .bool (decide (((n : Nat) : Int) ≤ 16))), (22, .int .i64 ((wv : Nat) : Int)), (23, .int .i64 ((n : Nat) : Int)), (24, .agg #[.int .i64 ((wv : Nat) : Int), .int .i64 ((n : Nat) : Int)])]) ?_ ?_
                        · refine (Bool.eq_false_or_eq_true (ruledB 4 ⟨((wv : Nat) : Int), ((n : Nat) : Int)⟩)).elim (fun hb160 => ?_) (fun hb160 => ?_)
                          · subst hM0
                            have hk161 := hb160; try simp only [Bool.not_eq_true', Bool.not_eq_false', Bool.and_eq_true, Bool.or_eq_true, Bool.or_eq_false_iff, decide_eq_true_eq, decide_eq_false_iff_not, beq_iff_eq, beq_eq_false_iff_ne, ne_eq] at hk161
                            refine op_on HE rfl rfl hb160 ?_
                            refine o_move HE rfl rfl ?_; clear HE; intro a HE
                            refine op_on HE rfl rfl hb160 ?_
                            refine o_ldA HE rfl HS rfl T.a23 (.here .here) rfl ?_; clear HE; intro a HE
                            refine op_on HE rfl rfl hb160 ?_
                            refine o_callP HE rfl HS rfl rfl T.g35 (c_said 4 (⟨((wv : Nat) : Int), ((n : Nat) : Int)⟩ : Rul) _ _ HS.sub (by first | assumption | (constructor <;> dsimp only <;> omega))) ?_
                            clear HE HS; rintro _ w a HS rfl HE
                            refine op_on HE rfl rfl hb160 ?_
                            refine o_move HE rfl rfl ?_; clear HE; intro a HE
                            refine op_on HE rfl rfl hb160 ?_
                            refine o_eqS HE rfl rfl rfl ?_; clear HE; intro a HE
                            refine o_pick_t HE rfl rfl hb160 rfl ?_; clear HE; intro a HE
                            exact ⟨HS, HE.cut ⟨by rw [hb160]; rfl, rfl, rfl, rfl, rfl, rfl, rfl, rfl, rfl, rfl, rfl, rfl, rfl, rfl, trivial⟩⟩
                          · subst hM0
                            have hk162 := hb160; try simp only [Bool.not_eq_true', Bool.not_eq_false', Bool.and_eq_true, Bool.or_eq_true, Bool.or_eq_false_iff, decide_eq_true_eq, decide_eq_false_iff_not, beq_iff_eq, beq_eq_false_iff_ne, ne_eq] at hk162
                            refine g_off HE rfl rfl rfl hb160 ?_; clear HE; intro a HE
                            refine g_off HE rfl rfl rfl hb160 ?_; clear HE; intro a HE
                            refine g_off HE rfl rfl rfl hb160 ?_; clear HE; intro a HE
                            refine g_off HE rfl rfl rfl hb160 ?_; clear HE; intro a HE
                            refine g_off HE rfl rfl rfl hb160 ?_; clear HE; intro a HE
                            refine o_pick_f HE rfl rfl hb160 rfl ?_; clear HE; intro a HE
                            exact ⟨HS, HE.cut ⟨by rw [hb160]; rfl, rfl, rfl, rfl, rfl, rfl, rfl, rfl, rfl, rfl, rfl, rfl, rfl, rfl, trivial⟩⟩
                        clear HE HS; rintro a w ⟨HS, HE⟩; subst hM0
                        refine hK _ _ ?_; clear hK K
                        refine cond HE rfl (fun h164 => ?_) (fun h164 => ?_)
                        · have h164r := h164; try simp only [Bool.not_eq_true', Bool.not_eq_false', Bool.and_eq_true, Bool.or_eq_true, Bool.or_eq_false_iff, Bool.and_eq_false_iff, decide_eq_true_eq, decide_eq_false_iff_not, beq_iff_eq, beq_eq_false_iff_ne, ne_eq] at h164
                          refine wp_seq_k (fun K hK => ?_); refine wp_region_lit ?_
                          refine o_move HE rfl rfl ?_; clear HE; intro a HE
                          refine o_ldA HE rfl HS rfl T.a23 (.here .here) rfl ?_; clear HE; intro a HE
                          refine o_fld HE rfl rfl T.f26_0 ?_; clear HE; intro a HE
                          refine o_ixA HE rfl rfl rfl T.r24 (by decide) ?_; clear HE; intro a HE
                          refine o_stA HE HS rfl rfl rfl T.a23 (.there (.there (.here .here))) rfl ?_; clear HS; intro w HS
                          refine hK _ _ ?_; clear hK K
                          refine wp_seq_k (fun K167 hK166 => ?_)
                          replace HS := HS.conv (L2 := [(0, _), (1, _)]) (.here .here) ⟨rfl, rfl, trivial⟩
                          replace HS := HS.conv (L2 := [(0, _), (1, _), (2, _), (3, _), (4, _), (5, _), (6, _), (7, _), (8, _), (9, _), (10, _), (11, _), (12, _), (13, _)]) (.there (.there (.here .here))) ⟨rfl, rfl, rfl, rfl, rfl, rfl, rfl, rfl, rfl, rfl, rfl, rfl, rfl, rfl, trivial⟩
                          replace HE := HE.cut (L' := [(0, str s), (3, .pointer (some ⟨B3, 0, none⟩)), (5, .pointer (some ⟨B5, 0, none⟩)), (6, .int .i64 4), (7, .int .i64 ((wv : Nat) : Int)), (8, .int .i64 ((n : Nat) : Int)), (9, .pointer (some ⟨B9, 0, none⟩)), (18, .int .i64 ((n : Nat) : Int)), (19, .bool (decide (((n : Nat) : Int) ≤ 16))), (22, .int .i64 ((wv : Nat) : Int)), (23, .int .i64 ((n : Nat) : Int)), (24, .agg #[.int .i64 ((wv : Nat) : Int), .int .i64 ((n : Nat) : Int)]), (34, .bool ((ruledB 4 ⟨((wv : Nat) : Int), ((n : Nat) : Int)⟩) && ((saidS 4 (⟨((wv : Nat) : Int), ((n : Nat) : Int)⟩ : Rul)) == s))), (35, .int .i64 4), (36, .agg #[.int .i64 ((wv : Nat) : Int), .int .i64 ((n : Nat) : Int)]), (37, .pointer (some ⟨B3, 0, none⟩)), (38, .pointer (some ⟨B3, 8, none⟩))]) ⟨rfl, rfl, rfl, rfl, rfl, rfl, rfl, rfl, rfl, rfl, rfl, rfl, rfl, rfl, rfl, rfl, rfl, trivial⟩
                          refine drawnF (fun f G' w => Heap.le G G' ∧ St w0 G [] G' w [[(B9, Cells 23 [(0, .int .i64 ((wv : Nat) : Int)), (1, .int .i64 ((n : Nat) : Int))])], [(B5, Cells 26 [(0, bif f 3 then .int .i64 p.r0.way else .int .i64 0), (1, bif f 3 then .int .i64 p.r0.size else .int .i64 0), (2, bif f 3 then .int .i64 p.r1.way else .int .i64 0), (3, bif f 3 then .int .i64 p.r1.size else .int .i64 0), (4, bif f 3 then .int .i64 p.r2.way else .int .i64 0), (5, bif f 3 then .int .i64 p.r2.size else .int .i64 0), (6, bif f 3 then .int .i64 p.r3.way else .int .i64 0), (7, bif f 3 then .int .i64 p.r3.size else .int .i64 0), (8, bif f 3 then .int .i64 ((wv : Nat) : Int) else .int .i64 0), (9, bif f 3 then .int .i64 ((n : Nat) : Int) else .int .i64 0), (10, bif f 3 then .int .i64 p.time else .int .i64 0), (11, bif f 3 then .int .i64 p.note else .int .i64 0), (12, bif f 3 then .bool p.loose else .bool false), (13, bif f 3 then .bool p.force else .bool false)])], [(B3, Cells 26 [(0, .int .i64 p.r0.way), (1, .int .i64 p.r0.size), (2, .int .i64 p.r1.way), (3, .int .i64 p.r1.size), (4, .int .i64 p.r2.way), (5, .int .i64 p.r2.size), (6, .int .i64 p.r3.way), (7, .int .i64 p.r3.size), (8, .int .i64 ((wv : Nat) : Int)), (9, .int .i64 ((n : Nat) : Int)), (10, .int .i64 p.time), (11, .int .i64 p.note), (12, .bool p.loose), (13, .bool p.force)])]]) [fun v _ => v = .int .i64 4, fun v _ => v = .agg #[.int .i64 p.r0.way, .int .i64 p.r0.size, .int .i64 p.r1.way, .int .i64 p.r1.size, .int .i64 p.r2.way, .int .i64 p.r2.size, .int .i64 p.r3.way, .int .i64 p.r3.size, .int .i64 ((wv : Nat) : Int), .int .i64 ((n : Nat) : Int), .int .i64 p.time, .int .i64 p.note, .bool p.loose, .bool p.force], fun v _ => v = .int .i64 4, fun _ _ => True] [] T.mix rfl HE ⟨Heap.le.refl _, HS.drew⟩ rfl (by simp) (AllM.get ⟨fun _ _ _ _ h => h, fun _ _ _ _ h => h, fun _ _ _ _ h => h, fun _ _ _ _ h => h, trivial⟩) ⟨?_, ?_, ?_, ?_, trivial⟩ ?_
                          · intro a w G1 f hcl hfi hon hW HE hp hO; obtain ⟨hl, HS⟩ := hW
                            refine o_move HE rfl rfl ?_; clear HE; intro a HE
                            exact ⟨_, _, Heap.le.refl _, ⟨hl, HS⟩, fun d hd => (by cases hd; exact HE.get _ _ rfl), HE.defers, rfl⟩
                          · intro a w G1 f hcl hfi hon hW HE hp hO; obtain ⟨hl, HS⟩ := hW
                            refine o_ldA HE rfl HS rfl T.a26 (.there (.there (.here .here))) rfl ?_; clear HE; intro a HE
                            exact ⟨_, _, Heap.le.refl _, ⟨hl, HS⟩, fun d hd => (by cases hd; exact HE.get _ _ rfl), HE.defers, rfl⟩
                          · intro a w G1 f hcl hfi hon hW HE hp hO; obtain ⟨hl, HS⟩ := hW
                            obtain ⟨_, e0, rfl⟩ := hp 0 39 _ (hon 0 rfl) rfl rfl; replace HE := HE.add e0
                            refine o_assign HE rfl rfl ?_; clear HE; intro a HE
                            exact ⟨_, _, Heap.le.refl _, ⟨hl, HS⟩, fun d hd => (by cases hd; exact HE.get _ _ rfl), HE.defers, rfl⟩
                          · intro a w G1 f hcl hfi hon hW HE hp hO; obtain ⟨hl, HS⟩ := hW
                            obtain ⟨_, e1, rfl⟩ := hp 1 40 _ (hon 1 rfl) rfl rfl; replace HE := HE.add e1
                            refine o_stA HE HS rfl rfl rfl T.a26 (.there (.here .here)) rfl ?_; clear HS; intro w HS
                            replace HS := HS.conv (L2 := [(0, _), (1, _), (2, _), (3, _), (4, _), (5, _), (6, _), (7, _), (8, _), (9, _), (10, _), (11, _), (12, _), (13, _)]) (.there (.here .here)) ⟨rfl, rfl, rfl, rfl, rfl, rfl, rfl, rfl, rfl, rfl, rfl, rfl, rfl, rfl, trivial⟩
                            exact ⟨.bool true, _, Heap.le.refl _, ⟨hl, HS⟩, fun d hd => (by cases hd), HE.defers, trivial⟩
                          clear HE HS; intro a w G168 f hle169 hall HW HE hp; obtain ⟨_, HS⟩ := HW
                          have hfw3 := hall 3 (by decide)
                          simp only [hfw3, cond_true] at HS
                          obtain ⟨_, e2, rfl⟩ := hp 2 4 _ rfl rfl; replace HE := HE.add e2
                          clear hp hall
                          refine hK166 _ _ ?_; clear hK166
                          refine wp_ret ?_
                          show Q .ret _ _
                          refine ret hQ HE rfl (HE.res rfl (HE.resA HS rfl T.a26 (.there (.here .here)) rfl .nil)) ⟨_, _, HS.stop (List.nil_sublist _), rfl, ?_⟩
                          have hm : matchS s 4 wv n = true := h164r
                          have e : lineR s p = (4, (⟨⟨p.r0.way, p.r0.size⟩, ⟨p.r1.way, p.r1.size⟩, ⟨p.r2.way, p.r2.size⟩, ⟨p.r3.way, p.r3.size⟩, ⟨((wv : Nat) : Int), ((n : Nat) : Int)⟩, p.time, p.note, p.loose, p.force⟩ : Pol)) := lineR_hit (d := 4) (by decide) (by omega) (by omega) hm
                          show _ = _
                          rw [e]
                          rfl
                        · have h164r := h164; try simp only [Bool.not_eq_true', Bool.not_eq_false', Bool.and_eq_true, Bool.or_eq_true, Bool.or_eq_false_iff, Bool.and_eq_false_iff, decide_eq_true_eq, decide_eq_false_iff_not, beq_iff_eq, beq_eq_false_iff_ne, ne_eq] at h164
                          refine wp_skip ?_
                          refine hK157 _ _ ?_; clear hK157
                          refine wp_region_lit ?_
                          refine o_move HE rfl rfl ?_; clear HE; intro a HE
                          refine o_add HE rfl rfl rfl (by omega) ?_; clear HE; intro a HE
                          refine o_assign HE rfl rfl ?_; clear HE; intro a HE
                          replace HS := HS.drop (M' := [_, _]) (sub_drop (sub_keep (sub_keep sub_nil)))
                          have hnn2 : ∀ n' : Nat, n' < n + 1 → matchS s 4 wv n' = false := fun n' hn' => by
                            by_cases e : n' = n
                            · subst e; exact h164r
                            · exact hnn n' (by omega)
                          exact ⟨n + 1, ⟨HS, HE.cut ⟨rfl, rfl, rfl, rfl, rfl, rfl, rfl, trivial⟩, ⟨by omega, hnn2⟩⟩, by omega⟩
                      · have h156r := h156; try simp only [Bool.not_eq_true', Bool.not_eq_false', Bool.and_eq_true, Bool.or_eq_true, Bool.or_eq_false_iff, Bool.and_eq_false_iff, decide_eq_true_eq, decide_eq_false_iff_not, beq_iff_eq, beq_eq_false_iff_ne, ne_eq] at h156
                        refine wp_exit ?_
                        refine hK149 _ _ ?_; clear hK149
                        refine wp_region_lit ?_
                        refine o_move HE rfl rfl ?_; clear HE; intro a HE
                        refine o_add HE rfl rfl rfl (by omega) ?_; clear HE; intro a HE
                        skip
                        refine o_assign HE rfl rfl ?_; clear HE; intro a HE
                        have hnw2 : ∀ w' n' : Nat, w' < wv + 1 → n' ≤ 16 → matchS s 4 w' n' = false := fun w' n' hw' hn' => by
                          by_cases e : w' = wv
                          · subst e; exact hnn n' (by omega)
                          · exact hnw w' n' (by omega) hn'
                        exact ⟨wv + 1, ⟨HS, HE.cut ⟨rfl, rfl, rfl, rfl, rfl, rfl, trivial⟩, ⟨by omega, hnw2⟩⟩, by omega⟩
                    · have h148r := h148; try simp only [Bool.not_eq_true', Bool.not_eq_false', Bool.and_eq_true, Bool.or_eq_true, Bool.or_eq_false_iff, Bool.and_eq_false_iff, decide_eq_true_eq, decide_eq_false_iff_not, beq_iff_eq, beq_eq_false_iff_ne, ne_eq] at h148
                      refine wp_exit ?_
                      refine hK141 _ _ ?_; clear hK141
                      refine wp_region_lit ?_
                      have hd4 : ∀ w' n' : Nat, w' < 4 → n' ≤ 16 → matchS s 4 w' n' = false := fun w' n' hw' hn' => hnw w' n' (by omega) hn'
                      refine o_move HE rfl rfl ?_; clear HE; intro a HE
                      refine o_add HE rfl rfl rfl (by omega) ?_; clear HE; intro a HE
                      refine o_assign HE rfl rfl ?_; clear HE; intro a HE
                      show Code.rounds _ _ _ _ _ _
                      replace HE := HE.cut (L' := [(0, str s), (3, .pointer (some ⟨B3, 0, none⟩)), (4, .int .i64 0), (5, .pointer (some ⟨B5, 0, none⟩)), (6, .int .i64 5)]) ⟨rfl, rfl, rfl, rfl, rfl, trivial⟩
                      rw [rounds_succ]
                      refine wp_seq_k (fun K171 hK170 => ?_)
                      refine wp_seq_k (fun K hK => ?_); refine wp_region_lit ?_
                      skip
                      refine o_move HE rfl rfl ?_; clear HE; intro a HE
                      refine o_lss HE rfl rfl rfl ?_; clear HE; intro a HE
                      refine hK _ _ ?_; clear hK K
                      refine cond HE rfl (fun h173 => ?_) (fun h173 => ?_)
                      · exact absurd h173 (by decide)
                      · have h173r := h173; try simp only [Bool.not_eq_true', Bool.not_eq_false', Bool.and_eq_true, Bool.or_eq_true, Bool.or_eq_false_iff, Bool.and_eq_false_iff, decide_eq_true_eq, decide_eq_false_iff_not, beq_iff_eq, beq_eq_false_iff_ne, ne_eq] at h173
                        refine wp_exit ?_
                        refine hK2 _ _ ?_; clear hK2
                        refine wp_seq_k (fun K175 hK174 => ?_)
                        refine wp_seq_k (fun K hK => ?_); refine wp_region_lit ?_
                        have hall : ∀ d w n : Nat, d < 5 → w ≤ 3 → n ≤ 16 → matchS s d w n = false := by
                          intro d w n hd hw hn
                          match d, hd with
                          | 0, _ => exact hd0 w n (by omega) hn
                          | 1, _ => exact hd1 w n (by omega) hn
                          | 2, _ => exact hd2 w n (by omega) hn
                          | 3, _ => exact hd3 w n (by omega) hn
                          | 4, _ => exact hd4 w n (by omega) hn
                        refine o_move HE rfl rfl ?_; clear HE; intro a HE
                        refine hK _ _ ?_; clear hK K
                        refine wp_block ?_
                        refine wp_seq_k (fun K hK => ?_); refine wp_region_lit ?_
                        refine o_eqS HE rfl rfl rfl ?_; clear HE; intro a HE
                        refine o_assign HE rfl rfl ?_; clear HE; intro a HE
                        refine hK _ _ ?_; clear hK K
                        refine cond HE rfl (fun h178 => ?_) (fun h178 => ?_)
                        · have h178r := h178; try simp only [Bool.not_eq_true', Bool.not_eq_false', Bool.and_eq_true, Bool.or_eq_true, Bool.or_eq_false_iff, Bool.and_eq_false_iff, decide_eq_true_eq, decide_eq_false_iff_not, beq_iff_eq, beq_eq_false_iff_ne, ne_eq] at h178
                          refine wp_seq_k (fun K180 hK179 => ?_)
                          replace HE := HE.cut (L' := [(0, str s), (3, .pointer (some ⟨B3, 0, none⟩)), (5, .pointer (some ⟨B5, 0, none⟩)), (6, .int .i64 5), (10, .int .i64 5), (11, .bool (decide (5 < 5))), (41, str s), (42, .bool (s == [116, 105, 109, 101, 32, 107, 101, 101, 112])), (43, .bool (s == [116, 105, 109, 101, 32, 107, 101, 101, 112]))]) ⟨rfl, rfl, rfl, rfl, rfl, rfl, rfl, rfl, rfl, trivial⟩
                          refine drawnF (fun f G' w => Heap.le G G' ∧ St w0 G [] G' w [[(B5, Cells 26 [(0, bif f 2 then .int .i64 p.r0.way else .int .i64 0), (1, bif f 2 then .int .i64 p.r0.size else .int .i64 0), (2, bif f 2 then .int .i64 p.r1.way else .int .i64 0), (3, bif f 2 then .int .i64 p.r1.size else .int .i64 0), (4, bif f 2 then .int .i64 p.r2.way else .int .i64 0), (5, bif f 2 then .int .i64 p.r2.size else .int .i64 0), (6, bif f 2 then .int .i64 p.r3.way else .int .i64 0), (7, bif f 2 then .int .i64 p.r3.size else .int .i64 0), (8, bif f 2 then .int .i64 p.r4.way else .int .i64 0), (9, bif f 2 then .int .i64 p.r4.size else .int .i64 0), (10, bif f 2 then .int .i64 p.time else .int .i64 0), (11, bif f 2 then .int .i64 p.note else .int .i64 0), (12, bif f 2 then .bool p.loose else .bool false), (13, bif f 2 then .bool p.force else .bool false)])], [(B3, Cells 26 [(0, .int .i64 p.r0.way), (1, .int .i64 p.r0.size), (2, .int .i64 p.r1.way), (3, .int .i64 p.r1.size), (4, .int .i64 p.r2.way), (5, .int .i64 p.r2.size), (6, .int .i64 p.r3.way), (7, .int .i64 p.r3.size), (8, .int .i64 p.r4.way), (9, .int .i64 p.r4.size), (10, .int .i64 p.time), (11, .int .i64 p.note), (12, .bool p.loose), (13, .bool p.force)])]]) [fun v _ => v = .agg #[.int .i64 p.r0.way, .int .i64 p.r0.size, .int .i64 p.r1.way, .int .i64 p.r1.size, .int .i64 p.r2.way, .int .i64 p.r2.size, .int .i64 p.r3.way, .int .i64 p.r3.size, .int .i64 p.r4.way, .int .i64 p.r4.size, .int .i64 p.time, .int .i64 p.note, .bool p.loose, .bool p.force], fun v _ => v = .int .i64 5, fun _ _ => True] [] T.mix rfl HE ⟨Heap.le.refl _, HS.drew⟩ rfl (by simp) (AllM.get ⟨fun _ _ _ _ h => h, fun _ _ _ _ h => h, fun _ _ _ _ h => h, trivial⟩) ⟨?_, ?_, ?_, trivial⟩ ?_
                          · intro a w G1 f hcl hfi hon hW HE hp hO; obtain ⟨hl, HS⟩ := hW
                            refine o_ldA HE rfl HS rfl T.a26 (.there (.here .here)) rfl ?_; clear HE; intro a HE
                            exact ⟨_, _, Heap.le.refl _, ⟨hl, HS⟩, fun d hd => (by cases hd; exact HE.get _ _ rfl), HE.defers, rfl⟩
                          · intro a w G1 f hcl hfi hon hW HE hp hO; obtain ⟨hl, HS⟩ := hW
                            refine o_assign HE rfl rfl ?_; clear HE; intro a HE
                            exact ⟨_, _, Heap.le.refl _, ⟨hl, HS⟩, fun d hd => (by cases hd; exact HE.get _ _ rfl), HE.defers, rfl⟩
                          · intro a w G1 f hcl hfi hon hW HE hp hO; obtain ⟨hl, HS⟩ := hW
                            obtain ⟨_, e0, rfl⟩ := hp 0 44 _ (hon 0 rfl) rfl rfl; replace HE := HE.add e0
                            refine o_stA HE HS rfl rfl rfl T.a26 (.here .here) rfl ?_; clear HS; intro w HS
                            replace HS := HS.conv (L2 := [(0, _), (1, _), (2, _), (3, _), (4, _), (5, _), (6, _), (7, _), (8, _), (9, _), (10, _), (11, _), (12, _), (13, _)]) (.here .here) ⟨rfl, rfl, rfl, rfl, rfl, rfl, rfl, rfl, rfl, rfl, rfl, rfl, rfl, rfl, trivial⟩
                            exact ⟨.bool true, _, Heap.le.refl _, ⟨hl, HS⟩, fun d hd => (by cases hd), HE.defers, trivial⟩
                          clear HE HS; intro a w G181 f hle182 hall HW HE hp; obtain ⟨_, HS⟩ := HW
                          have hfw2 := hall 2 (by decide)
                          simp only [hfw2, cond_true] at HS
                          obtain ⟨_, e1, rfl⟩ := hp 1 4 _ rfl rfl; replace HE := HE.add e1
                          clear hp hall
                          refine hK179 _ _ ?_; clear hK179
                          refine wp_ret ?_
                          show Q .ret _ _
                          refine ret hQ HE rfl (HE.res rfl (HE.resA HS rfl T.a26 (.here .here) rfl .nil)) ⟨_, _, HS.stop (List.nil_sublist _), rfl, ?_⟩
                          have e : lineR s p = (5, (⟨⟨p.r0.way, p.r0.size⟩, ⟨p.r1.way, p.r1.size⟩, ⟨p.r2.way, p.r2.size⟩, ⟨p.r3.way, p.r3.size⟩, ⟨p.r4.way, p.r4.size⟩, p.time, p.note, p.loose, p.force⟩ : Pol)) := by
                            rw [lineR_miss hall]
                            rw [if_pos (by simpa [sTK, sTR, sNK, sND, sLo, sFo] using h178)]
                          show _ = _
                          rw [e]
                          rfl
                        · have h178r := h178; try simp only [Bool.not_eq_true', Bool.not_eq_false', Bool.and_eq_true, Bool.or_eq_true, Bool.or_eq_false_iff, Bool.and_eq_false_iff, decide_eq_true_eq, decide_eq_false_iff_not, beq_iff_eq, beq_eq_false_iff_ne, ne_eq] at h178
                          refine wp_seq_k (fun K hK => ?_); refine wp_region_lit ?_
                          refine o_eqS HE rfl rfl rfl ?_; clear HE; intro a HE
                          refine o_assign HE rfl rfl ?_; clear HE; intro a HE
                          refine hK _ _ ?_; clear hK K
                          refine cond HE rfl (fun h184 => ?_) (fun h184 => ?_)
                          · have h184r := h184; try simp only [Bool.not_eq_true', Bool.not_eq_false', Bool.and_eq_true, Bool.or_eq_true, Bool.or_eq_false_iff, Bool.and_eq_false_iff, decide_eq_true_eq, decide_eq_false_iff_not, beq_iff_eq, beq_eq_false_iff_ne, ne_eq] at h184
                            refine wp_seq_k (fun K hK => ?_); refine wp_region_lit ?_
                            refine o_fld HE rfl rfl T.f26_1 ?_; clear HE; intro a HE
                            refine o_st HE HS rfl rfl rfl T.s3 (.there (.here .here)) rfl ?_; clear HS; intro w HS
                            refine hK _ _ ?_; clear hK K
                            refine wp_seq_k (fun K187 hK186 => ?_)
                            replace HS := HS.conv (L2 := [(0, _), (1, _), (2, _), (3, _), (4, _), (5, _), (6, _), (7, _), (8, _), (9, _), (10, _), (11, _), (12, _), (13, _)]) (.there (.here .here)) ⟨rfl, rfl, rfl, rfl, rfl, rfl, rfl, rfl, rfl, rfl, rfl, rfl, rfl, rfl, trivial⟩
                            replace HE := HE.cut (L' := [(0, str s), (3, .pointer (some ⟨B3, 0, none⟩)), (5, .pointer (some ⟨B5, 0, none⟩)), (6, .int .i64 5), (10, .int .i64 5), (11, .bool (decide (5 < 5))), (41, str s), (42, .bool (s == [116, 105, 109, 101, 32, 107, 101, 101, 112])), (43, .bool (s == [116, 105, 109, 101, 32, 107, 101, 101, 112])), (45, .bool (s == [116, 105, 109, 101, 32, 114, 97, 110, 107])), (46, .bool (s == [116, 105, 109, 101, 32, 114, 97, 110, 107])), (47, .pointer (some ⟨B3, 10, none⟩))]) ⟨rfl, rfl, rfl, rfl, rfl, rfl, rfl, rfl, rfl, rfl, rfl, rfl, trivial⟩
                            refine drawnF (fun f G' w => Heap.le G G' ∧ St w0 G [] G' w [[(B5, Cells 26 [(0, bif f 2 then .int .i64 p.r0.way else .int .i64 0), (1, bif f 2 then .int .i64 p.r0.size else .int .i64 0), (2, bif f 2 then .int .i64 p.r1.way else .int .i64 0), (3, bif f 2 then .int .i64 p.r1.size else .int .i64 0), (4, bif f 2 then .int .i64 p.r2.way else .int .i64 0), (5, bif f 2 then .int .i64 p.r2.size else .int .i64 0), (6, bif f 2 then .int .i64 p.r3.way else .int .i64 0), (7, bif f 2 then .int .i64 p.r3.size else .int .i64 0), (8, bif f 2 then .int .i64 p.r4.way else .int .i64 0), (9, bif f 2 then .int .i64 p.r4.size else .int .i64 0), (10, bif f 2 then .int .i64 3 else .int .i64 0), (11, bif f 2 then .int .i64 p.note else .int .i64 0), (12, bif f 2 then .bool p.loose else .bool false), (13, bif f 2 then .bool p.force else .bool false)])], [(B3, Cells 26 [(0, .int .i64 p.r0.way), (1, .int .i64 p.r0.size), (2, .int .i64 p.r1.way), (3, .int .i64 p.r1.size), (4, .int .i64 p.r2.way), (5, .int .i64 p.r2.size), (6, .int .i64 p.r3.way), (7, .int .i64 p.r3.size), (8, .int .i64 p.r4.way), (9, .int .i64 p.r4.size), (10, .int .i64 3), (11, .int .i64 p.note), (12, .bool p.loose), (13, .bool p.force)])]]) [fun v _ => v = .agg #[.int .i64 p.r0.way, .int .i64 p.r0.size, .int .i64 p.r1.way, .int .i64 p.r1.size, .int .i64 p.r2.way, .int .i64 p.r2.size, .int .i64 p.r3.way, .int .i64 p.r3.size, .int .i64 p.r4.way, .int .i64 p.r4.size, .int .i64 3, .int .i64 p.note, .bool p.loose, .bool p.force], fun v _ => v = .int .i64 5, fun _ _ => True] [] T.mix rfl HE ⟨Heap.le.refl _, HS.drew⟩ rfl (by simp) (AllM.get ⟨fun _ _ _ _ h => h, fun _ _ _ _ h => h, fun _ _ _ _ h => h, trivial⟩) ⟨?_, ?_, ?_, trivial⟩ ?_
                            · intro a w G1 f hcl hfi hon hW HE hp hO; obtain ⟨hl, HS⟩ := hW
                              refine o_ldA HE rfl HS rfl T.a26 (.there (.here .here)) rfl ?_; clear HE; intro a HE
                              exact ⟨_, _, Heap.le.refl _, ⟨hl, HS⟩, fun d hd => (by cases hd; exact HE.get _ _ rfl), HE.defers, rfl⟩
                            · intro a w G1 f hcl hfi hon hW HE hp hO; obtain ⟨hl, HS⟩ := hW
                              refine o_assign HE rfl rfl ?_; clear HE; intro a HE
                              exact ⟨_, _, Heap.le.refl _, ⟨hl, HS⟩, fun d hd => (by cases hd; exact HE.get _ _ rfl), HE.defers, rfl⟩
                            · intro a w G1 f hcl hfi hon hW HE hp hO; obtain ⟨hl, HS⟩ := hW
                              obtain ⟨_, e0, rfl⟩ := hp 0 48 _ (hon 0 rfl) rfl rfl; replace HE := HE.add e0
                              refine o_stA HE HS rfl rfl rfl T.a26 (.here .here) rfl ?_; clear HS; intro w HS
                              replace HS := HS.conv (L2 := [(0, _), (1, _), (2, _), (3, _), (4, _), (5, _), (6, _), (7, _), (8, _), (9, _), (10, _), (11, _), (12, _), (13, _)]) (.here .here) ⟨rfl, rfl, rfl, rfl, rfl, rfl, rfl, rfl, rfl, rfl, rfl, rfl, rfl, rfl, trivial⟩
                              exact ⟨.bool true, _, Heap.le.refl _, ⟨hl, HS⟩, fun d hd => (by cases hd), HE.defers, trivial⟩
                            clear HE HS; intro a w G188 f hle189 hall HW HE hp; obtain ⟨_, HS⟩ := HW
                            have hfw2 := hall 2 (by decide)
                            simp only [hfw2, cond_true] at HS
                            obtain ⟨_, e1, rfl⟩ := hp 1 4 _ rfl rfl; replace HE := HE.add e1
                            clear hp hall
                            refine hK186 _ _ ?_; clear hK186
                            refine wp_ret ?_
                            show Q .ret _ _
                            refine ret hQ HE rfl (HE.res rfl (HE.resA HS rfl T.a26 (.here .here) rfl .nil)) ⟨_, _, HS.stop (List.nil_sublist _), rfl, ?_⟩
                            have e : lineR s p = (5, (⟨⟨p.r0.way, p.r0.size⟩, ⟨p.r1.way, p.r1.size⟩, ⟨p.r2.way, p.r2.size⟩, ⟨p.r3.way, p.r3.size⟩, ⟨p.r4.way, p.r4.size⟩, 3, p.note, p.loose, p.force⟩ : Pol)) := by
                              rw [lineR_miss hall]
                              rw [if_neg (by simpa [sTK, sTR, sNK, sND, sLo, sFo] using h178)]
                              rw [if_pos (by simpa [sTK, sTR, sNK, sND, sLo, sFo] using h184)]
                            show _ = _
                            rw [e]
                            rfl
                          · have h184r := h184; try simp only [Bool.not_eq_true', Bool.not_eq_false', Bool.and_eq_true, Bool.or_eq_true, Bool.or_eq_false_iff, Bool.and_eq_false_iff, decide_eq_true_eq, decide_eq_false_iff_not, beq_iff_eq, beq_eq_false_iff_ne, ne_eq] at h184
                            refine wp_seq_k (fun K hK => ?_); refine wp_region_lit ?_
                            refine o_eqS HE rfl rfl rfl ?_; clear HE; intro a HE
                            refine o_assign HE rfl rfl ?_; clear HE; intro a HE
                            refine hK _ _ ?_; clear hK K
                            refine cond HE rfl (fun h191 => ?_) (fun h191 => ?_)
                            · have h191r := h191; try simp only [Bool.not_eq_true', Bool.not_eq_false', Bool.and_eq_true, Bool.or_eq_true, Bool.or_eq_false_iff, Bool.and_eq_false_iff, decide_eq_true_eq, decide_eq_false_iff_not, beq_iff_eq, beq_eq_false_iff_ne, ne_eq] at h191
                              refine wp_seq_k (fun K193 hK192 => ?_)
                              replace HE := HE.cut (L' := [(0, str s), (3, .pointer (some ⟨B3, 0, none⟩)), (5, .pointer (some ⟨B5, 0, none⟩)), (6, .int .i64 5), (10, .int .i64 5), (11, .bool (decide (5 < 5))), (41, str s), (42, .bool (s == [116, 105, 109, 101, 32, 107, 101, 101, 112])), (43, .bool (s == [116, 105, 109, 101, 32, 107, 101, 101, 112])), (45, .bool (s == [116, 105, 109, 101, 32, 114, 97, 110, 107])), (46, .bool (s == [116, 105, 109, 101, 32, 114, 97, 110, 107])), (49, .bool (s == [110, 111, 116, 101, 32, 107, 101, 101, 112])), (50, .bool (s == [110, 111, 116, 101, 32, 107, 101, 101, 112]))]) ⟨rfl, rfl, rfl, rfl, rfl, rfl, rfl, rfl, rfl, rfl, rfl, rfl, rfl, trivial⟩
                              refine drawnF (fun f G' w => Heap.le G G' ∧ St w0 G [] G' w [[(B5, Cells 26 [(0, bif f 2 then .int .i64 p.r0.way else .int .i64 0), (1, bif f 2 then .int .i64 p.r0.size else .int .i64 0), (2, bif f 2 then .int .i64 p.r1.way else .int .i64 0), (3, bif f 2 then .int .i64 p.r1.size else .int .i64 0), (4, bif f 2 then .int .i64 p.r2.way else .int .i64 0), (5, bif f 2 then .int .i64 p.r2.size else .int .i64 0), (6, bif f 2 then .int .i64 p.r3.way else .int .i64 0), (7, bif f 2 then .int .i64 p.r3.size else .int .i64 0), (8, bif f 2 then .int .i64 p.r4.way else .int .i64 0), (9, bif f 2 then .int .i64 p.r4.size else .int .i64 0), (10, bif f 2 then .int .i64 p.time else .int .i64 0), (11, bif f 2 then .int .i64 p.note else .int .i64 0), (12, bif f 2 then .bool p.loose else .bool false), (13, bif f 2 then .bool p.force else .bool false)])], [(B3, Cells 26 [(0, .int .i64 p.r0.way), (1, .int .i64 p.r0.size), (2, .int .i64 p.r1.way), (3, .int .i64 p.r1.size), (4, .int .i64 p.r2.way), (5, .int .i64 p.r2.size), (6, .int .i64 p.r3.way), (7, .int .i64 p.r3.size), (8, .int .i64 p.r4.way), (9, .int .i64 p.r4.size), (10, .int .i64 p.time), (11, .int .i64 p.note), (12, .bool p.loose), (13, .bool p.force)])]]) [fun v _ => v = .agg #[.int .i64 p.r0.way, .int .i64 p.r0.size, .int .i64 p.r1.way, .int .i64 p.r1.size, .int .i64 p.r2.way, .int .i64 p.r2.size, .int .i64 p.r3.way, .int .i64 p.r3.size, .int .i64 p.r4.way, .int .i64 p.r4.size, .int .i64 p.time, .int .i64 p.note, .bool p.loose, .bool p.force], fun v _ => v = .int .i64 6, fun _ _ => True] [] T.mix rfl HE ⟨Heap.le.refl _, HS.drew⟩ rfl (by simp) (AllM.get ⟨fun _ _ _ _ h => h, fun _ _ _ _ h => h, fun _ _ _ _ h => h, trivial⟩) ⟨?_, ?_, ?_, trivial⟩ ?_
                              · intro a w G1 f hcl hfi hon hW HE hp hO; obtain ⟨hl, HS⟩ := hW
                                refine o_ldA HE rfl HS rfl T.a26 (.there (.here .here)) rfl ?_; clear HE; intro a HE
                                exact ⟨_, _, Heap.le.refl _, ⟨hl, HS⟩, fun d hd => (by cases hd; exact HE.get _ _ rfl), HE.defers, rfl⟩
                              · intro a w G1 f hcl hfi hon hW HE hp hO; obtain ⟨hl, HS⟩ := hW
                                refine o_assign HE rfl rfl ?_; clear HE; intro a HE
                                exact ⟨_, _, Heap.le.refl _, ⟨hl, HS⟩, fun d hd => (by cases hd; exact HE.get _ _ rfl), HE.defers, rfl⟩
                              · intro a w G1 f hcl hfi hon hW HE hp hO; obtain ⟨hl, HS⟩ := hW
                                obtain ⟨_, e0, rfl⟩ := hp 0 51 _ (hon 0 rfl) rfl rfl; replace HE := HE.add e0
                                refine o_stA HE HS rfl rfl rfl T.a26 (.here .here) rfl ?_; clear HS; intro w HS
                                replace HS := HS.conv (L2 := [(0, _), (1, _), (2, _), (3, _), (4, _), (5, _), (6, _), (7, _), (8, _), (9, _), (10, _), (11, _), (12, _), (13, _)]) (.here .here) ⟨rfl, rfl, rfl, rfl, rfl, rfl, rfl, rfl, rfl, rfl, rfl, rfl, rfl, rfl, trivial⟩
                                exact ⟨.bool true, _, Heap.le.refl _, ⟨hl, HS⟩, fun d hd => (by cases hd), HE.defers, trivial⟩
                              clear HE HS; intro a w G194 f hle195 hall HW HE hp; obtain ⟨_, HS⟩ := HW
                              have hfw2 := hall 2 (by decide)
                              simp only [hfw2, cond_true] at HS
                              obtain ⟨_, e1, rfl⟩ := hp 1 4 _ rfl rfl; replace HE := HE.add e1
                              clear hp hall
                              refine hK192 _ _ ?_; clear hK192
                              refine wp_ret ?_
                              show Q .ret _ _
                              refine ret hQ HE rfl (HE.res rfl (HE.resA HS rfl T.a26 (.here .here) rfl .nil)) ⟨_, _, HS.stop (List.nil_sublist _), rfl, ?_⟩
                              have e : lineR s p = (6, (⟨⟨p.r0.way, p.r0.size⟩, ⟨p.r1.way, p.r1.size⟩, ⟨p.r2.way, p.r2.size⟩, ⟨p.r3.way, p.r3.size⟩, ⟨p.r4.way, p.r4.size⟩, p.time, p.note, p.loose, p.force⟩ : Pol)) := by
                                rw [lineR_miss hall]
                                rw [if_neg (by simpa [sTK, sTR, sNK, sND, sLo, sFo] using h178)]
                                rw [if_neg (by simpa [sTK, sTR, sNK, sND, sLo, sFo] using h184)]
                                rw [if_pos (by simpa [sTK, sTR, sNK, sND, sLo, sFo] using h191)]
                              show _ = _
                              rw [e]
                              rfl
                            · have h191r := h191; try simp only [Bool.not_eq_true', Bool.not_eq_false', Bool.and_eq_true, Bool.or_eq_true, Bool.or_eq_false_iff, Bool.and_eq_false_iff, decide_eq_true_eq, decide_eq_false_iff_not, beq_iff_eq, beq_eq_false_iff_ne, ne_eq] at h191
                              refine wp_seq_k (fun K hK => ?_); refine wp_region_lit ?_
                              refine o_eqS HE rfl rfl rfl ?_; clear HE; intro a HE
                              refine o_assign HE rfl rfl ?_; clear HE; intro a HE
                              refine hK _ _ ?_; clear hK K
                              refine cond HE rfl (fun h197 => ?_) (fun h197 => ?_)
                              · have h197r := h197; try simp only [Bool.not_eq_true', Bool.not_eq_false', Bool.and_eq_true, Bool.or_eq_true, Bool.or_eq_false_iff, Bool.and_eq_false_iff, decide_eq_true_eq, decide_eq_false_iff_not, beq_iff_eq, beq_eq_false_iff_ne, ne_eq] at h197
                                refine wp_seq_k (fun K hK => ?_); refine wp_region_lit ?_
                                refine o_fld HE rfl rfl T.f26_2 ?_; clear HE; intro a HE
                                refine o_st HE HS rfl rfl rfl T.s3 (.there (.here .here)) rfl ?_; clear HS; intro w HS
                                refine hK _ _ ?_; clear hK K
                                refine wp_seq_k (fun K200 hK199 => ?_)
                                replace HS := HS.conv (L2 := [(0, _), (1, _), (2, _), (3, _), (4, _), (5, _), (6, _), (7, _), (8, _), (9, _), (10, _), (11, _), (12, _), (13, _)]) (.there (.here .here)) ⟨rfl, rfl, rfl, rfl, rfl, rfl, rfl, rfl, rfl, rfl, rfl, rfl, rfl, rfl, trivial⟩
                                replace HE := HE.cut (L' := [(0, str s), (3, .pointer (some ⟨B3, 0, none⟩)), (5, .pointer (some ⟨B5, 0, none⟩)), (6, .int .i64 5), (10, .int .i64 5), (11, .bool (decide (5 < 5))), (41, str s), (42, .bool (s == [116, 105, 109, 101, 32, 107, 101, 101, 112])), (43, .bool (s == [116, 105, 109, 101, 32, 107, 101, 101, 112])), (45, .bool (s == [116, 105, 109, 101, 32, 114, 97, 110, 107])), (46, .bool (s == [116, 105, 109, 101, 32, 114, 97, 110, 107])), (49, .bool (s == [110, 111, 116, 101, 32, 107, 101, 101, 112])), (50, .bool (s == [110, 111, 116, 101, 32, 107, 101, 101, 112])), (52, .bool (s == [110, 111, 116, 101, 32, 100, 114, 111, 112])), (53, .bool (s == [110, 111, 116, 101, 32, 100, 114, 111, 112])), (54, .pointer (some ⟨B3, 11, none⟩))]) ⟨rfl, rfl, rfl, rfl, rfl, rfl, rfl, rfl, rfl, rfl, rfl, rfl, rfl, rfl, rfl, rfl, trivial⟩
                                refine drawnF (fun f G' w => Heap.le G G' ∧ St w0 G [] G' w [[(B5, Cells 26 [(0, bif f 2 then .int .i64 p.r0.way else .int .i64 0), (1, bif f 2 then .int .i64 p.r0.size else .int .i64 0), (2, bif f 2 then .int .i64 p.r1.way else .int .i64 0), (3, bif f 2 then .int .i64 p.r1.size else .int .i64 0), (4, bif f 2 then .int .i64 p.r2.way else .int .i64 0), (5, bif f 2 then .int .i64 p.r2.size else .int .i64 0), (6, bif f 2 then .int .i64 p.r3.way else .int .i64 0), (7, bif f 2 then .int .i64 p.r3.size else .int .i64 0), (8, bif f 2 then .int .i64 p.r4.way else .int .i64 0), (9, bif f 2 then .int .i64 p.r4.size else .int .i64 0), (10, bif f 2 then .int .i64 p.time else .int .i64 0), (11, bif f 2 then .int .i64 4 else .int .i64 0), (12, bif f 2 then .bool p.loose else .bool false), (13, bif f 2 then .bool p.force else .bool false)])], [(B3, Cells 26 [(0, .int .i64 p.r0.way), (1, .int .i64 p.r0.size), (2, .int .i64 p.r1.way), (3, .int .i64 p.r1.size), (4, .int .i64 p.r2.way), (5, .int .i64 p.r2.size), (6, .int .i64 p.r3.way), (7, .int .i64 p.r3.size), (8, .int .i64 p.r4.way), (9, .int .i64 p.r4.size), (10, .int .i64 p.time), (11, .int .i64 4), (12, .bool p.loose), (13, .bool p.force)])]]) [fun v _ => v = .agg #[.int .i64 p.r0.way, .int .i64 p.r0.size, .int .i64 p.r1.way, .int .i64 p.r1.size, .int .i64 p.r2.way, .int .i64 p.r2.size, .int .i64 p.r3.way, .int .i64 p.r3.size, .int .i64 p.r4.way, .int .i64 p.r4.size, .int .i64 p.time, .int .i64 4, .bool p.loose, .bool p.force], fun v _ => v = .int .i64 6, fun _ _ => True] [] T.mix rfl HE ⟨Heap.le.refl _, HS.drew⟩ rfl (by simp) (AllM.get ⟨fun _ _ _ _ h => h, fun _ _ _ _ h => h, fun _ _ _ _ h => h, trivial⟩) ⟨?_, ?_, ?_, trivial⟩ ?_
                                · intro a w G1 f hcl hfi hon hW HE hp hO; obtain ⟨hl, HS⟩ := hW
                                  refine o_ldA HE rfl HS rfl T.a26 (.there (.here .here)) rfl ?_; clear HE; intro a HE
                                  exact ⟨_, _, Heap.le.refl _, ⟨hl, HS⟩, fun d hd => (by cases hd; exact HE.get _ _ rfl), HE.defers, rfl⟩
                                · intro a w G1 f hcl hfi hon hW HE hp hO; obtain ⟨hl, HS⟩ := hW
                                  refine o_assign HE rfl rfl ?_; clear HE; intro a HE
                                  exact ⟨_, _, Heap.le.refl _, ⟨hl, HS⟩, fun d hd => (by cases hd; exact HE.get _ _ rfl), HE.defers, rfl⟩
                                · intro a w G1 f hcl hfi hon hW HE hp hO; obtain ⟨hl, HS⟩ := hW
                                  obtain ⟨_, e0, rfl⟩ := hp 0 55 _ (hon 0 rfl) rfl rfl; replace HE := HE.add e0
                                  refine o_stA HE HS rfl rfl rfl T.a26 (.here .here) rfl ?_; clear HS; intro w HS
                                  replace HS := HS.conv (L2 := [(0, _), (1, _), (2, _), (3, _), (4, _), (5, _), (6, _), (7, _), (8, _), (9, _), (10, _), (11, _), (12, _), (13, _)]) (.here .here) ⟨rfl, rfl, rfl, rfl, rfl, rfl, rfl, rfl, rfl, rfl, rfl, rfl, rfl, rfl, trivial⟩
                                  exact ⟨.bool true, _, Heap.le.refl _, ⟨hl, HS⟩, fun d hd => (by cases hd), HE.defers, trivial⟩
                                clear HE HS; intro a w G201 f hle202 hall HW HE hp; obtain ⟨_, HS⟩ := HW
                                have hfw2 := hall 2 (by decide)
                                simp only [hfw2, cond_true] at HS
                                obtain ⟨_, e1, rfl⟩ := hp 1 4 _ rfl rfl; replace HE := HE.add e1
                                clear hp hall
                                refine hK199 _ _ ?_; clear hK199
                                refine wp_ret ?_
                                show Q .ret _ _
                                refine ret hQ HE rfl (HE.res rfl (HE.resA HS rfl T.a26 (.here .here) rfl .nil)) ⟨_, _, HS.stop (List.nil_sublist _), rfl, ?_⟩
                                have e : lineR s p = (6, (⟨⟨p.r0.way, p.r0.size⟩, ⟨p.r1.way, p.r1.size⟩, ⟨p.r2.way, p.r2.size⟩, ⟨p.r3.way, p.r3.size⟩, ⟨p.r4.way, p.r4.size⟩, p.time, 4, p.loose, p.force⟩ : Pol)) := by
                                  rw [lineR_miss hall]
                                  rw [if_neg (by simpa [sTK, sTR, sNK, sND, sLo, sFo] using h178)]
                                  rw [if_neg (by simpa [sTK, sTR, sNK, sND, sLo, sFo] using h184)]
                                  rw [if_neg (by simpa [sTK, sTR, sNK, sND, sLo, sFo] using h191)]
                                  rw [if_pos (by simpa [sTK, sTR, sNK, sND, sLo, sFo] using h197)]
                                show _ = _
                                rw [e]
                                rfl
                              · have h197r := h197; try simp only [Bool.not_eq_true', Bool.not_eq_false', Bool.and_eq_true, Bool.or_eq_true, Bool.or_eq_false_iff, Bool.and_eq_false_iff, decide_eq_true_eq, decide_eq_false_iff_not, beq_iff_eq, beq_eq_false_iff_ne, ne_eq] at h197
                                refine wp_seq_k (fun K hK => ?_); refine wp_region_lit ?_
                                refine o_eqS HE rfl rfl rfl ?_; clear HE; intro a HE
                                refine o_assign HE rfl rfl ?_; clear HE; intro a HE
                                refine hK _ _ ?_; clear hK K
                                refine cond HE rfl (fun h204 => ?_) (fun h204 => ?_)
                                · have h204r := h204; try simp only [Bool.not_eq_true', Bool.not_eq_false', Bool.and_eq_true, Bool.or_eq_true, Bool.or_eq_false_iff, Bool.and_eq_false_iff, decide_eq_true_eq, decide_eq_false_iff_not, beq_iff_eq, beq_eq_false_iff_ne, ne_eq] at h204
                                  refine wp_seq_k (fun K hK => ?_); refine wp_region_lit ?_
                                  refine o_fld HE rfl rfl T.f26_3 ?_; clear HE; intro a HE
                                  refine o_st HE HS rfl rfl rfl T.s4 (.there (.here .here)) rfl ?_; clear HS; intro w HS
                                  refine hK _ _ ?_; clear hK K
                                  refine wp_seq_k (fun K207 hK206 => ?_)
                                  replace HS := HS.conv (L2 := [(0, _), (1, _), (2, _), (3, _), (4, _), (5, _), (6, _), (7, _), (8, _), (9, _), (10, _), (11, _), (12, _), (13, _)]) (.there (.here .here)) ⟨rfl, rfl, rfl, rfl, rfl, rfl, rfl, rfl, rfl, rfl, rfl, rfl, rfl, rfl, trivial⟩
                                  replace HE := HE.cut (L' := [(0, str s), (3, .pointer (some ⟨B3, 0, none⟩)), (5, .pointer (some ⟨B5, 0, none⟩)), (6, .int .i64 5), (10, .int .i64 5), (11, .bool (decide (5 < 5))), (41, str s), (42, .bool (s == [116, 105, 109, 101, 32, 107, 101, 101, 112])), (43, .bool (s == [116, 105, 109, 101, 32, 107, 101, 101, 112])), (45, .bool (s == [116, 105, 109, 101, 32, 114, 97, 110, 107])), (46, .bool (s == [116, 105, 109, 101, 32, 114, 97, 110, 107])), (49, .bool (s == [110, 111, 116, 101, 32, 107, 101, 101, 112])), (50, .bool (s == [110, 111, 116, 101, 32, 107, 101, 101, 112])), (52, .bool (s == [110, 111, 116, 101, 32, 100, 114, 111, 112])), (53, .bool (s == [110, 111, 116, 101, 32, 100, 114, 111, 112])), (56, .bool (s == [108, 111, 111, 115, 101])), (57, .bool (s == [108, 111, 111, 115, 101])), (58, .pointer (some ⟨B3, 12, none⟩))]) ⟨rfl, rfl, rfl, rfl, rfl, rfl, rfl, rfl, rfl, rfl, rfl, rfl, rfl, rfl, rfl, rfl, rfl, rfl, trivial⟩
                                  refine drawnF (fun f G' w => Heap.le G G' ∧ St w0 G [] G' w [[(B5, Cells 26 [(0, bif f 2 then .int .i64 p.r0.way else .int .i64 0), (1, bif f 2 then .int .i64 p.r0.size else .int .i64 0), (2, bif f 2 then .int .i64 p.r1.way else .int .i64 0), (3, bif f 2 then .int .i64 p.r1.size else .int .i64 0), (4, bif f 2 then .int .i64 p.r2.way else .int .i64 0), (5, bif f 2 then .int .i64 p.r2.size else .int .i64 0), (6, bif f 2 then .int .i64 p.r3.way else .int .i64 0), (7, bif f 2 then .int .i64 p.r3.size else .int .i64 0), (8, bif f 2 then .int .i64 p.r4.way else .int .i64 0), (9, bif f 2 then .int .i64 p.r4.size else .int .i64 0), (10, bif f 2 then .int .i64 p.time else .int .i64 0), (11, bif f 2 then .int .i64 p.note else .int .i64 0), (12, bif f 2 then .bool true else .bool false), (13, bif f 2 then .bool p.force else .bool false)])], [(B3, Cells 26 [(0, .int .i64 p.r0.way), (1, .int .i64 p.r0.size), (2, .int .i64 p.r1.way), (3, .int .i64 p.r1.size), (4, .int .i64 p.r2.way), (5, .int .i64 p.r2.size), (6, .int .i64 p.r3.way), (7, .int .i64 p.r3.size), (8, .int .i64 p.r4.way), (9, .int .i64 p.r4.size), (10, .int .i64 p.time), (11, .int .i64 p.note), (12, .bool true), (13, .bool p.force)])]]) [fun v _ => v = .agg #[.int .i64 p.r0.way, .int .i64 p.r0.size, .int .i64 p.r1.way, .int .i64 p.r1.size, .int .i64 p.r2.way, .int .i64 p.r2.size, .int .i64 p.r3.way, .int .i64 p.r3.size, .int .i64 p.r4.way, .int .i64 p.r4.size, .int .i64 p.time, .int .i64 p.note, .bool true, .bool p.force], fun v _ => v = .int .i64 7, fun _ _ => True] [] T.mix rfl HE ⟨Heap.le.refl _, HS.drew⟩ rfl (by simp) (AllM.get ⟨fun _ _ _ _ h => h, fun _ _ _ _ h => h, fun _ _ _ _ h => h, trivial⟩) ⟨?_, ?_, ?_, trivial⟩ ?_
                                  · intro a w G1 f hcl hfi hon hW HE hp hO; obtain ⟨hl, HS⟩ := hW
                                    refine o_ldA HE rfl HS rfl T.a26 (.there (.here .here)) rfl ?_; clear HE; intro a HE
                                    exact ⟨_, _, Heap.le.refl _, ⟨hl, HS⟩, fun d hd => (by cases hd; exact HE.get _ _ rfl), HE.defers, rfl⟩
                                  · intro a w G1 f hcl hfi hon hW HE hp hO; obtain ⟨hl, HS⟩ := hW
                                    refine o_assign HE rfl rfl ?_; clear HE; intro a HE
                                    exact ⟨_, _, Heap.le.refl _, ⟨hl, HS⟩, fun d hd => (by cases hd; exact HE.get _ _ rfl), HE.defers, rfl⟩
                                  · intro a w G1 f hcl hfi hon hW HE hp hO; obtain ⟨hl, HS⟩ := hW
                                    obtain ⟨_, e0, rfl⟩ := hp 0 59 _ (hon 0 rfl) rfl rfl; replace HE := HE.add e0
                                    refine o_stA HE HS rfl rfl rfl T.a26 (.here .here) rfl ?_; clear HS; intro w HS
                                    replace HS := HS.conv (L2 := [(0, _), (1, _), (2, _), (3, _), (4, _), (5, _), (6, _), (7, _), (8, _), (9, _), (10, _), (11, _), (12, _), (13, _)]) (.here .here) ⟨rfl, rfl, rfl, rfl, rfl, rfl, rfl, rfl, rfl, rfl, rfl, rfl, rfl, rfl, trivial⟩
                                    exact ⟨.bool true, _, Heap.le.refl _, ⟨hl, HS⟩, fun d hd => (by cases hd), HE.defers, trivial⟩
                                  clear HE HS; intro a w G208 f hle209 hall HW HE hp; obtain ⟨_, HS⟩ := HW
                                  have hfw2 := hall 2 (by decide)
                                  simp only [hfw2, cond_true] at HS
                                  obtain ⟨_, e1, rfl⟩ := hp 1 4 _ rfl rfl; replace HE := HE.add e1
                                  clear hp hall
                                  refine hK206 _ _ ?_; clear hK206
                                  refine wp_ret ?_
                                  show Q .ret _ _
                                  refine ret hQ HE rfl (HE.res rfl (HE.resA HS rfl T.a26 (.here .here) rfl .nil)) ⟨_, _, HS.stop (List.nil_sublist _), rfl, ?_⟩
                                  have e : lineR s p = (7, (⟨⟨p.r0.way, p.r0.size⟩, ⟨p.r1.way, p.r1.size⟩, ⟨p.r2.way, p.r2.size⟩, ⟨p.r3.way, p.r3.size⟩, ⟨p.r4.way, p.r4.size⟩, p.time, p.note, true, p.force⟩ : Pol)) := by
                                    rw [lineR_miss hall]
                                    rw [if_neg (by simpa [sTK, sTR, sNK, sND, sLo, sFo] using h178)]
                                    rw [if_neg (by simpa [sTK, sTR, sNK, sND, sLo, sFo] using h184)]
                                    rw [if_neg (by simpa [sTK, sTR, sNK, sND, sLo, sFo] using h191)]
                                    rw [if_neg (by simpa [sTK, sTR, sNK, sND, sLo, sFo] using h197)]
                                    rw [if_pos (by simpa [sTK, sTR, sNK, sND, sLo, sFo] using h204)]
                                  show _ = _
                                  rw [e]
                                  rfl
                                · have h204r := h204; try simp only [Bool.not_eq_true', Bool.not_eq_false', Bool.and_eq_true, Bool.or_eq_true, Bool.or_eq_false_iff, Bool.and_eq_false_iff, decide_eq_true_eq, decide_eq_false_iff_not, beq_iff_eq, beq_eq_false_iff_ne, ne_eq] at h204
                                  refine wp_seq_k (fun K hK => ?_); refine wp_region_lit ?_
                                  refine o_eqS HE rfl rfl rfl ?_; clear HE; intro a HE
                                  refine o_assign HE rfl rfl ?_; clear HE; intro a HE
                                  refine hK _ _ ?_; clear hK K
                                  refine cond HE rfl (fun h211 => ?_) (fun h211 => ?_)
                                  · have h211r := h211; try simp only [Bool.not_eq_true', Bool.not_eq_false', Bool.and_eq_true, Bool.or_eq_true, Bool.or_eq_false_iff, Bool.and_eq_false_iff, decide_eq_true_eq, decide_eq_false_iff_not, beq_iff_eq, beq_eq_false_iff_ne, ne_eq] at h211
                                    refine wp_seq_k (fun K hK => ?_); refine wp_region_lit ?_
                                    refine o_fld HE rfl rfl T.f26_4 ?_; clear HE; intro a HE
                                    refine o_st HE HS rfl rfl rfl T.s4 (.there (.here .here)) rfl ?_; clear HS; intro w HS
                                    refine hK _ _ ?_; clear hK K
                                    refine wp_seq_k (fun K214 hK213 => ?_)
                                    replace HS := HS.conv (L2 := [(0, _), (1, _), (2, _), (3, _), (4, _), (5, _), (6, _), (7, _), (8, _), (9, _), (10, _), (11, _), (12, _), (13, _)]) (.there (.here .here)) ⟨rfl, rfl, rfl, rfl, rfl, rfl, rfl, rfl, rfl, rfl, rfl, rfl, rfl, rfl, trivial⟩
                                    replace HE := HE.cut (L' := [(0, str s), (3, .pointer (some ⟨B3, 0, none⟩)), (5, .pointer (some ⟨B5, 0, none⟩)), (6, .int .i64 5), (10, .int .i64 5), (11, .bool (decide (5 < 5))), (41, str s), (42, .bool (s == [116, 105, 109, 101, 32, 107, 101, 101, 112])), (43, .bool (s == [116, 105, 109, 101, 32, 107, 101, 101, 112])), (45, .bool (s == [116, 105, 109, 101, 32, 114, 97, 110, 107])), (46, .bool (s == [116, 105, 109, 101, 32, 114, 97, 110, 107])), (49, .bool (s == [110, 111, 116, 101, 32, 107, 101, 101, 112])), (50, .bool (s == [110, 111, 116, 101, 32, 107, 101, 101, 112])), (52, .bool (s == [110, 111, 116, 101, 32, 100, 114, 111, 112])), (53, .bool (s == [110, 111, 116, 101, 32, 100, 114, 111, 112])), (56, .bool (s == [108, 111, 111, 115, 101])), (57, .bool (s == [108, 111, 111, 115, 101])), (60, .bool (s == [102, 111, 114, 99, 101])), (61, .bool (s == [102, 111, 114, 99, 101])), (62, .pointer (some ⟨B3, 13, none⟩))]) ⟨rfl, rfl, rfl, rfl, rfl, rfl, rfl, rfl, rfl, rfl, rfl, rfl, rfl, rfl, rfl, rfl, rfl, rfl, rfl, rfl, trivial⟩
                                    refine drawnF (fun f G' w => Heap.le G G' ∧ St w0 G [] G' w [[(B5, Cells 26 [(0, bif f 2 then .int .i64 p.r0.way else .int .i64 0), (1, bif f 2 then .int .i64 p.r0.size else .int .i64 0), (2, bif f 2 then .int .i64 p.r1.way else .int .i64 0), (3, bif f 2 then .int .i64 p.r1.size else .int .i64 0), (4, bif f 2 then .int .i64 p.r2.way else .int .i64 0), (5, bif f 2 then .int .i64 p.r2.size else .int .i64 0), (6, bif f 2 then .int .i64 p.r3.way else .int .i64 0), (7, bif f 2 then .int .i64 p.r3.size else .int .i64 0), (8, bif f 2 then .int .i64 p.r4.way else .int .i64 0), (9, bif f 2 then .int .i64 p.r4.size else .int .i64 0), (10, bif f 2 then .int .i64 p.time else .int .i64 0), (11, bif f 2 then .int .i64 p.note else .int .i64 0), (12, bif f 2 then .bool p.loose else .bool false), (13, bif f 2 then .bool true else .bool false)])], [(B3, Cells 26 [(0, .int .i64 p.r0.way), (1, .int .i64 p.r0.size), (2, .int .i64 p.r1.way), (3, .int .i64 p.r1.size), (4, .int .i64 p.r2.way), (5, .int .i64 p.r2.size), (6, .int .i64 p.r3.way), (7, .int .i64 p.r3.size), (8, .int .i64 p.r4.way), (9, .int .i64 p.r4.size), (10, .int .i64 p.time), (11, .int .i64 p.note), (12, .bool p.loose), (13, .bool true)])]]) [fun v _ => v = .agg #[.int .i64 p.r0.way, .int .i64 p.r0.size, .int .i64 p.r1.way, .int .i64 p.r1.size, .int .i64 p.r2.way, .int .i64 p.r2.size, .int .i64 p.r3.way, .int .i64 p.r3.size, .int .i64 p.r4.way, .int .i64 p.r4.size, .int .i64 p.time, .int .i64 p.note, .bool p.loose, .bool true], fun v _ => v = .int .i64 8, fun _ _ => True] [] T.mix rfl HE ⟨Heap.le.refl _, HS.drew⟩ rfl (by simp) (AllM.get ⟨fun _ _ _ _ h => h, fun _ _ _ _ h => h, fun _ _ _ _ h => h, trivial⟩) ⟨?_, ?_, ?_, trivial⟩ ?_
                                    · intro a w G1 f hcl hfi hon hW HE hp hO; obtain ⟨hl, HS⟩ := hW
                                      refine o_ldA HE rfl HS rfl T.a26 (.there (.here .here)) rfl ?_; clear HE; intro a HE
                                      exact ⟨_, _, Heap.le.refl _, ⟨hl, HS⟩, fun d hd => (by cases hd; exact HE.get _ _ rfl), HE.defers, rfl⟩
                                    · intro a w G1 f hcl hfi hon hW HE hp hO; obtain ⟨hl, HS⟩ := hW
                                      refine o_assign HE rfl rfl ?_; clear HE; intro a HE
                                      exact ⟨_, _, Heap.le.refl _, ⟨hl, HS⟩, fun d hd => (by cases hd; exact HE.get _ _ rfl), HE.defers, rfl⟩
                                    · intro a w G1 f hcl hfi hon hW HE hp hO; obtain ⟨hl, HS⟩ := hW
                                      obtain ⟨_, e0, rfl⟩ := hp 0 63 _ (hon 0 rfl) rfl rfl; replace HE := HE.add e0
                                      refine o_stA HE HS rfl rfl rfl T.a26 (.here .here) rfl ?_; clear HS; intro w HS
                                      replace HS := HS.conv (L2 := [(0, _), (1, _), (2, _), (3, _), (4, _), (5, _), (6, _), (7, _), (8, _), (9, _), (10, _), (11, _), (12, _), (13, _)]) (.here .here) ⟨rfl, rfl, rfl, rfl, rfl, rfl, rfl, rfl, rfl, rfl, rfl, rfl, rfl, rfl, trivial⟩
                                      exact ⟨.bool true, _, Heap.le.refl _, ⟨hl, HS⟩, fun d hd => (by cases hd), HE.defers, trivial⟩
                                    clear HE HS; intro a w G215 f hle216 hall HW HE hp; obtain ⟨_, HS⟩ := HW
                                    have hfw2 := hall 2 (by decide)
                                    simp only [hfw2, cond_true] at HS
                                    obtain ⟨_, e1, rfl⟩ := hp 1 4 _ rfl rfl; replace HE := HE.add e1
                                    clear hp hall
                                    refine hK213 _ _ ?_; clear hK213
                                    refine wp_ret ?_
                                    show Q .ret _ _
                                    refine ret hQ HE rfl (HE.res rfl (HE.resA HS rfl T.a26 (.here .here) rfl .nil)) ⟨_, _, HS.stop (List.nil_sublist _), rfl, ?_⟩
                                    have e : lineR s p = (8, (⟨⟨p.r0.way, p.r0.size⟩, ⟨p.r1.way, p.r1.size⟩, ⟨p.r2.way, p.r2.size⟩, ⟨p.r3.way, p.r3.size⟩, ⟨p.r4.way, p.r4.size⟩, p.time, p.note, p.loose, true⟩ : Pol)) := by
                                      rw [lineR_miss hall]
                                      rw [if_neg (by simpa [sTK, sTR, sNK, sND, sLo, sFo] using h178)]
                                      rw [if_neg (by simpa [sTK, sTR, sNK, sND, sLo, sFo] using h184)]
                                      rw [if_neg (by simpa [sTK, sTR, sNK, sND, sLo, sFo] using h191)]
                                      rw [if_neg (by simpa [sTK, sTR, sNK, sND, sLo, sFo] using h197)]
                                      rw [if_neg (by simpa [sTK, sTR, sNK, sND, sLo, sFo] using h204)]
                                      rw [if_pos (by simpa [sTK, sTR, sNK, sND, sLo, sFo] using h211)]
                                    show _ = _
                                    rw [e]
                                    rfl
                                  · have h211r := h211; try simp only [Bool.not_eq_true', Bool.not_eq_false', Bool.and_eq_true, Bool.or_eq_true, Bool.or_eq_false_iff, Bool.and_eq_false_iff, decide_eq_true_eq, decide_eq_false_iff_not, beq_iff_eq, beq_eq_false_iff_ne, ne_eq] at h211
                                    refine wp_skip ?_
                                    refine hK174 _ _ ?_; clear hK174
                                    refine wp_seq_k (fun K218 hK217 => ?_)
                                    replace HE := HE.cut (L' := [(0, str s), (3, .pointer (some ⟨B3, 0, none⟩)), (5, .pointer (some ⟨B5, 0, none⟩)), (6, .int .i64 5), (10, .int .i64 5), (11, .bool (decide (5 < 5))), (41, str s), (42, .bool (s == [116, 105, 109, 101, 32, 107, 101, 101, 112])), (43, .bool (s == [116, 105, 109, 101, 32, 107, 101, 101, 112])), (45, .bool (s == [116, 105, 109, 101, 32, 114, 97, 110, 107])), (46, .bool (s == [116, 105, 109, 101, 32, 114, 97, 110, 107])), (49, .bool (s == [110, 111, 116, 101, 32, 107, 101, 101, 112])), (50, .bool (s == [110, 111, 116, 101, 32, 107, 101, 101, 112])), (52, .bool (s == [110, 111, 116, 101, 32, 100, 114, 111, 112])), (53, .bool (s == [110, 111, 116, 101, 32, 100, 114, 111, 112])), (56, .bool (s == [108, 111, 111, 115, 101])), (57, .bool (s == [108, 111, 111, 115, 101])), (60, .bool (s == [102, 111, 114, 99, 101])), (61, .bool (s == [102, 111, 114, 99, 101]))]) ⟨rfl, rfl, rfl, rfl, rfl, rfl, rfl, rfl, rfl, rfl, rfl, rfl, rfl, rfl, rfl, rfl, rfl, rfl, rfl, trivial⟩
                                    refine drawnF (fun f G' w => Heap.le G G' ∧ St w0 G [] G' w [[(B5, Cells 26 [(0, bif f 2 then .int .i64 p.r0.way else .int .i64 0), (1, bif f 2 then .int .i64 p.r0.size else .int .i64 0), (2, bif f 2 then .int .i64 p.r1.way else .int .i64 0), (3, bif f 2 then .int .i64 p.r1.size else .int .i64 0), (4, bif f 2 then .int .i64 p.r2.way else .int .i64 0), (5, bif f 2 then .int .i64 p.r2.size else .int .i64 0), (6, bif f 2 then .int .i64 p.r3.way else .int .i64 0), (7, bif f 2 then .int .i64 p.r3.size else .int .i64 0), (8, bif f 2 then .int .i64 p.r4.way else .int .i64 0), (9, bif f 2 then .int .i64 p.r4.size else .int .i64 0), (10, bif f 2 then .int .i64 p.time else .int .i64 0), (11, bif f 2 then .int .i64 p.note else .int .i64 0), (12, bif f 2 then .bool p.loose else .bool false), (13, bif f 2 then .bool p.force else .bool false)])], [(B3, Cells 26 [(0, .int .i64 p.r0.way), (1, .int .i64 p.r0.size), (2, .int .i64 p.r1.way), (3, .int .i64 p.r1.size), (4, .int .i64 p.r2.way), (5, .int .i64 p.r2.size), (6, .int .i64 p.r3.way), (7, .int .i64 p.r3.size), (8, .int .i64 p.r4.way), (9, .int .i64 p.r4.size), (10, .int .i64 p.time), (11, .int .i64 p.note), (12, .bool p.loose), (13, .bool p.force)])]]) [fun v _ => v = .agg #[.int .i64 p.r0.way, .int .i64 p.r0.size, .int .i64 p.r1.way, .int .i64 p.r1.size, .int .i64 p.r2.way, .int .i64 p.r2.size, .int .i64 p.r3.way, .int .i64 p.r3.size, .int .i64 p.r4.way, .int .i64 p.r4.size, .int .i64 p.time, .int .i64 p.note, .bool p.loose, .bool p.force], fun v _ => v = .int .i64 (-1), fun _ _ => True] [] T.mix rfl HE ⟨Heap.le.refl _, HS.drew⟩ rfl (by simp) (AllM.get ⟨fun _ _ _ _ h => h, fun _ _ _ _ h => h, fun _ _ _ _ h => h, trivial⟩) ⟨?_, ?_, ?_, trivial⟩ ?_
                                    · intro a w G1 f hcl hfi hon hW HE hp hO; obtain ⟨hl, HS⟩ := hW
                                      refine o_ldA HE rfl HS rfl T.a26 (.there (.here .here)) rfl ?_; clear HE; intro a HE
                                      exact ⟨_, _, Heap.le.refl _, ⟨hl, HS⟩, fun d hd => (by cases hd; exact HE.get _ _ rfl), HE.defers, rfl⟩
                                    · intro a w G1 f hcl hfi hon hW HE hp hO; obtain ⟨hl, HS⟩ := hW
                                      refine o_assign HE rfl rfl ?_; clear HE; intro a HE
                                      exact ⟨_, _, Heap.le.refl _, ⟨hl, HS⟩, fun d hd => (by cases hd; exact HE.get _ _ rfl), HE.defers, rfl⟩
                                    · intro a w G1 f hcl hfi hon hW HE hp hO; obtain ⟨hl, HS⟩ := hW
                                      obtain ⟨_, e0, rfl⟩ := hp 0 64 _ (hon 0 rfl) rfl rfl; replace HE := HE.add e0
                                      refine o_stA HE HS rfl rfl rfl T.a26 (.here .here) rfl ?_; clear HS; intro w HS
                                      replace HS := HS.conv (L2 := [(0, _), (1, _), (2, _), (3, _), (4, _), (5, _), (6, _), (7, _), (8, _), (9, _), (10, _), (11, _), (12, _), (13, _)]) (.here .here) ⟨rfl, rfl, rfl, rfl, rfl, rfl, rfl, rfl, rfl, rfl, rfl, rfl, rfl, rfl, trivial⟩
                                      exact ⟨.bool true, _, Heap.le.refl _, ⟨hl, HS⟩, fun d hd => (by cases hd), HE.defers, trivial⟩
                                    clear HE HS; intro a w G219 f hle220 hall HW HE hp; obtain ⟨_, HS⟩ := HW
                                    have hfw2 := hall 2 (by decide)
                                    simp only [hfw2, cond_true] at HS
                                    obtain ⟨_, e1, rfl⟩ := hp 1 4 _ rfl rfl; replace HE := HE.add e1
                                    clear hp hall
                                    refine hK217 _ _ ?_; clear hK217
                                    refine wp_ret ?_
                                    show Q .ret _ _
                                    refine ret hQ HE rfl (HE.res rfl (HE.resA HS rfl T.a26 (.here .here) rfl .nil)) ⟨_, _, HS.stop (List.nil_sublist _), rfl, ?_⟩
                                    have e : lineR s p = ((-1), (⟨⟨p.r0.way, p.r0.size⟩, ⟨p.r1.way, p.r1.size⟩, ⟨p.r2.way, p.r2.size⟩, ⟨p.r3.way, p.r3.size⟩, ⟨p.r4.way, p.r4.size⟩, p.time, p.note, p.loose, p.force⟩ : Pol)) := by
                                      rw [lineR_miss hall]
                                      rw [if_neg (by simpa [sTK, sTR, sNK, sND, sLo, sFo] using h178)]
                                      rw [if_neg (by simpa [sTK, sTR, sNK, sND, sLo, sFo] using h184)]
                                      rw [if_neg (by simpa [sTK, sTR, sNK, sND, sLo, sFo] using h191)]
                                      rw [if_neg (by simpa [sTK, sTR, sNK, sND, sLo, sFo] using h197)]
                                      rw [if_neg (by simpa [sTK, sTR, sNK, sND, sLo, sFo] using h204)]
                                      rw [if_neg (by simpa [sTK, sTR, sNK, sND, sLo, sFo] using h211)]
                                    show _ = _
                                    rw [e]
                                    rfl
                  · exact absurd h140 (by decide)
              · exact absurd h107 (by decide)
          · exact absurd h74 (by decide)
      · exact absurd h41 (by decide)
  · exact absurd h8 (by decide)

/-! `incognito/policy.kinds$1` -/
set_option maxRecDepth 100000 in
set_option maxHeartbeats 4000000 in
theorem c_one25 (l : List Bs) (A : Option Addr) (c : Nat) (may : Int) (w0 : World) (G : Heap) (hG : Sub G w0) (hR : Rd Knd.s G A l) (hl : l.length ≤ 4294967281) (hgw : CellsAt G 1 0 [str [107, 101, 101, 112], str [111, 114, 100, 105, 110, 97, 108], str [107, 101, 121, 101, 100], str [114, 97, 110, 107], str [100, 114, 111, 112]]):
    Calls Tryd.prog 71 #[.slice A l.length c, .int .i64 may] w0 (Ret w0 G (fun v _ => v = .tuple #[.int .i64 (oneS l may).1, .bool (oneS l may).2])) := by
  refine enter Tryd.func71 rfl Tryd.ntmps71 rfl ?_
  intro Q hQ a HE
  have HS := St.start0 hG
  refine wp_seq_k (fun K hK => ?_); refine wp_region_lit ?_
  refine o_assign HE rfl rfl ?_; clear HE; intro a HE
  refine o_assign HE rfl rfl ?_; clear HE; intro a HE
  refine hK _ _ ?_; clear hK K
  refine wp_seq_k (fun K3 hK2 => ?_)
  refine wp_seq_k (fun K hK => ?_); refine wp_region_lit ?_
  refine o_move HE rfl rfl ?_; clear HE; intro a HE
  refine o_lenL HE rfl rfl Tryd.underlying29 ?_; clear HE; intro a HE
  refine o_neI HE rfl rfl rfl ?_; clear HE; intro a HE
  refine hK _ _ ?_; clear hK K
  refine cond HE rfl (fun h5 => ?_) (fun h5 => ?_)
  · have h5r := h5; try simp only [Bool.not_eq_true', Bool.not_eq_false', Bool.and_eq_true, Bool.or_eq_true, Bool.or_eq_false_iff, Bool.and_eq_false_iff, decide_eq_true_eq, decide_eq_false_iff_not, beq_iff_eq, beq_eq_false_iff_ne, ne_eq] at h5
    refine wp_seq_k (fun K hK => ?_); refine wp_region_lit ?_
    refine o_assign HE rfl rfl ?_; clear HE; intro a HE
    refine o_assign HE rfl rfl ?_; clear HE; intro a HE
    refine hK _ _ ?_; clear hK K
    refine wp_ret ?_
    show Q .ret _ _
    refine ret hQ HE rfl (HE.res rfl (HE.res rfl .nil)) ⟨_, _, HS.stop (List.nil_sublist _), rfl, ?_⟩
    have e : oneS l may = (0, false) := by
      unfold oneS
      rw [if_neg (by omega)]
    show _ = _
    rw [e]
    rfl
  · have h5r := h5; try simp only [Bool.not_eq_true', Bool.not_eq_false', Bool.and_eq_true, Bool.or_eq_true, Bool.or_eq_false_iff, Bool.and_eq_false_iff, decide_eq_true_eq, decide_eq_false_iff_not, beq_iff_eq, beq_eq_false_iff_ne, ne_eq] at h5
    refine wp_skip ?_
    refine hK2 _ _ ?_; clear hK2
    refine wp_seq_k (fun K hK => ?_); refine wp_region_lit ?_
    refine o_move HE rfl rfl ?_; clear HE; intro a HE
    have hi7 : (0 : Int).toNat < l.length := by omega
    obtain ⟨eb7, eo7, hA7, el7⟩ := Rd.at hR (List.getElem?_eq_getElem hi7); cases hA7
    obtain ⟨x7, ex7⟩ : ∃ x, l[(0 : Int).toNat] = x := ⟨_, rfl⟩; rw [ex7] at el7
    have el7 := kof_open (enc := fun l => str l) el7
    refine o_ixL HE rfl rfl rfl T.l29 ⟨by omega, by omega⟩ ?_; clear HE; intro a HE
    refine o_ldI HE rfl HS rfl T.s9 el7 (j := 0) rfl rfl ?_; clear HE; intro a HE
    refine o_callP HE rfl HS rfl rfl T.g72 (c_way x7 _ _ HS.sub hgw) ?_
    clear HE HS; rintro _ w a HS rfl HE
    refine o_move HE rfl rfl ?_; clear HE; intro a HE
    refine o_extract HE rfl rfl rfl ?_; clear HE; intro a HE
    refine o_extract HE rfl rfl rfl ?_; clear HE; intro a HE
    refine o_assign HE rfl rfl ?_; clear HE; intro a HE
    refine o_assign HE rfl rfl ?_; clear HE; intro a HE
    refine hK _ _ ?_; clear hK K
    refine wp_seq_k (fun K hK => ?_); refine wp_region_lit ?_
    refine o_move HE rfl rfl ?_; clear HE; intro a HE
    refine o_move HE rfl rfl ?_; clear HE; intro a HE
    refine o_move HE rfl rfl ?_; clear HE; intro a HE
    refine cutL 8 (fun a' w' => w = w' ∧ Env a' 29 [] [(28, .bool (((wayS x7).2) && ((decide (((wayS x7).1) = 0)) || (decide (((wayS x7).1) = may))))), (0, .slice (some ⟨eb7, eo7, none⟩) l.length c), (4, .int .i64 0), (5, .bool false), (8, .slice (some ⟨eb7, eo7, none⟩) l.length c), (9, .int .i64 (l.length : Int)), (10, .bool (!decide ((l.length : Int) = 1))), (11, .tuple #[.int .i64 ((wayS x7).1), .bool ((wayS x7).2)]), (12, .slice (some ⟨eb7, eo7, none⟩) l.length c), (13, .pointer (some ⟨eb7, eo7 + (0 : Int).toNat * 1, none⟩)), (14, str x7), (15, .tuple #[.int .i64 ((wayS x7).1), .bool ((wayS x7).2)]), (16, .int .i64 ((wayS x7).1)), (17, .bool ((wayS x7).2)), (18, .int .i64 ((wayS x7).1))]) ?_ ?_
    · refine (Bool.eq_false_or_eq_true ((wayS x7).2)).elim (fun hb9 => ?_) (fun hb9 => ?_)
      · skip
        have hk10 := hb9; try simp only [Bool.not_eq_true', Bool.not_eq_false', Bool.and_eq_true, Bool.or_eq_true, Bool.or_eq_false_iff, decide_eq_true_eq, decide_eq_false_iff_not, beq_iff_eq, beq_eq_false_iff_ne, ne_eq] at hk10
        refine op_on HE rfl rfl hb9 ?_
        refine o_move HE rfl rfl ?_; clear HE; intro a HE
        refine op_on HE rfl rfl hb9 ?_
        refine o_eqI HE rfl rfl rfl ?_; clear HE; intro a HE
        refine op_on HE rfl rfl hb9 ?_
        refine o_move HE rfl rfl ?_; clear HE; intro a HE
        refine cutL 4 (fun a' w' => w = w' ∧ Env a' 29 [] [(27, .bool ((decide (((wayS x7).1) = 0)) || (decide (((wayS x7).1) = may)))), (0, .slice (some ⟨eb7, eo7, none⟩) l.length c), (4, .int .i64 0), (5, .bool false), (8, .slice (some ⟨eb7, eo7, none⟩) l.length c), (9, .int .i64 (l.length : Int)), (10, .bool (!decide ((l.length : Int) = 1))), (11, .tuple #[.int .i64 ((wayS x7).1), .bool ((wayS x7).2)]), (12, .slice (some ⟨eb7, eo7, none⟩) l.length c), (13, .pointer (some ⟨eb7, eo7 + (0 : Int).toNat * 1, none⟩)), (14, str x7), (15, .tuple #[.int .i64 ((wayS x7).1), .bool ((wayS x7).2)]), (16, .int .i64 ((wayS x7).1)), (17, .bool ((wayS x7).2)), (18, .int .i64 ((wayS x7).1)), (20, .bool ((wayS x7).2))]) ?_ ?_
        · refine (Bool.eq_false_or_eq_true (decide (((wayS x7).1) = 0))).elim (fun hb11 => ?_) (fun hb11 => ?_)
          · skip
            have hk12 := hb11; try simp only [Bool.not_eq_true', Bool.not_eq_false', Bool.and_eq_true, Bool.or_eq_true, Bool.or_eq_false_iff, decide_eq_true_eq, decide_eq_false_iff_not, beq_iff_eq, beq_eq_false_iff_ne, ne_eq] at hk12
            refine g_off HE rfl rfl rfl hb11 ?_; clear HE; intro a HE
            refine g_off HE rfl rfl rfl hb11 ?_; clear HE; intro a HE
            refine g_off HE rfl rfl rfl hb11 ?_; clear HE; intro a HE
            refine op_on HE rfl rfl hb9 ?_
            refine o_pick_t HE rfl rfl hb11 rfl ?_; clear HE; intro a HE
            exact ⟨rfl, HE.cut ⟨by rw [hb11]; rfl, rfl, rfl, rfl, rfl, rfl, rfl, rfl, rfl, rfl, rfl, rfl, rfl, rfl, rfl, rfl, trivial⟩⟩
          · skip
            have hk13 := hb11; try simp only [Bool.not_eq_true', Bool.not_eq_false', Bool.and_eq_true, Bool.or_eq_true, Bool.or_eq_false_iff, decide_eq_true_eq, decide_eq_false_iff_not, beq_iff_eq, beq_eq_false_iff_ne, ne_eq] at hk13
            refine op_on HE rfl rfl hb11 ?_
            refine o_move HE rfl rfl ?_; clear HE; intro a HE
            refine op_on HE rfl rfl hb11 ?_
            refine o_move HE rfl rfl ?_; clear HE; intro a HE
            refine op_on HE rfl rfl hb11 ?_
            refine o_eqI HE rfl rfl rfl ?_; clear HE; intro a HE
            refine op_on HE rfl rfl hb9 ?_
            refine o_pick_f HE rfl rfl hb11 rfl ?_; clear HE; intro a HE
            exact ⟨rfl, HE.cut ⟨by rw [hb11]; rfl, rfl, rfl, rfl, rfl, rfl, rfl, rfl, rfl, rfl, rfl, rfl, rfl, rfl, rfl, rfl, trivial⟩⟩
        clear HE; rintro a _ ⟨rfl, HE⟩
        refine o_pick_t HE rfl rfl hb9 rfl ?_; clear HE; intro a HE
        exact ⟨rfl, HE.cut ⟨by rw [hb9]; rfl, rfl, rfl, rfl, rfl, rfl, rfl, rfl, rfl, rfl, rfl, rfl, rfl, rfl, rfl, trivial⟩⟩
      · skip
        have hk14 := hb9; try simp only [Bool.not_eq_true', Bool.not_eq_false', Bool.and_eq_true, Bool.or_eq_true, Bool.or_eq_false_iff, decide_eq_true_eq, decide_eq_false_iff_not, beq_iff_eq, beq_eq_false_iff_ne, ne_eq] at hk14
        refine g_off HE rfl rfl rfl hb9 ?_; clear HE; intro a HE
        refine g_off HE rfl rfl rfl hb9 ?_; clear HE; intro a HE
        refine g_off HE rfl rfl rfl hb9 ?_; clear HE; intro a HE
        refine g_offu HE rfl rfl rfl ?_; clear HE; intro a HE
        refine g_offu HE rfl rfl rfl ?_; clear HE; intro a HE
        refine g_offu HE rfl rfl rfl ?_; clear HE; intro a HE
        refine g_off HE rfl rfl rfl hb9 ?_; clear HE; intro a HE
        refine o_pick_f HE rfl rfl hb9 rfl ?_; clear HE; intro a HE
        exact ⟨rfl, HE.cut ⟨by rw [hb9]; rfl, rfl, rfl, rfl, rfl, rfl, rfl, rfl, rfl, rfl, rfl, rfl, rfl, rfl, rfl, trivial⟩⟩
    clear HE; rintro a _ ⟨rfl, HE⟩
    refine o_assign HE rfl rfl ?_; clear HE; intro a HE
    refine o_assign HE rfl rfl ?_; clear HE; intro a HE
    refine hK _ _ ?_; clear hK K
    refine wp_ret ?_
    show Q .ret _ _
    refine ret hQ HE rfl (HE.res rfl (HE.res rfl .nil)) ⟨_, _, HS.stop (List.nil_sublist _), rfl, ?_⟩
    have e0 : w0S l = wayS x7 := by unfold w0S; rw [get0 ex7]
    have e : oneS l may = ((wayS x7).1, ((wayS x7).2) && ((decide (((wayS x7).1) = 0)) || (decide (((wayS x7).1) = may)))) := by
      unfold oneS
      rw [if_pos (by omega), e0]
    show _ = _
    rw [e]
    rfl

/-! `incognito/policy.rule$1` -/
set_option maxRecDepth 100000 in
set_option maxHeartbeats 4000000 in
theorem c_rule0 (P : Pol) (l : List Bs) (A : Option Addr) (c : Nat) (bp : Nat) (bd : Nat) {W0 : World} {H0 : Heap} {L0 : List Nat} {M0 : List Chunk} (w0 : World) (G : Heap) (hS0 : St W0 H0 L0 G w0 ([(bp, Cells 26 [(0, .int .i64 P.r0.way), (1, .int .i64 P.r0.size), (2, .int .i64 P.r1.way), (3, .int .i64 P.r1.size), (4, .int .i64 P.r2.way), (5, .int .i64 P.r2.size), (6, .int .i64 P.r3.way), (7, .int .i64 P.r3.size), (8, .int .i64 P.r4.way), (9, .int .i64 P.r4.size), (10, .int .i64 P.time), (11, .int .i64 P.note), (12, .bool P.loose), (13, .bool P.force)])] :: M0)) (hR : Rd Knd.s G A l) (hc : l.length ≤ c) (hl : l.length ≤ 4294967281) (hls : ∀ x ∈ l, x.length ≤ 4294967280) (hCd : CellsAt G bd 0 [.int .i64 0]) (hgw : CellsAt G 1 0 [str [107, 101, 101, 112], str [111, 114, 100, 105, 110, 97, 108], str [107, 101, 121, 101, 100], str [114, 97, 110, 107], str [100, 114, 111, 112]]):
    Calls Tryd.prog 103 #[.pointer (some ⟨bp, 0, none⟩), .slice A l.length c, .pointer (some ⟨bd, 0, none⟩)] w0 (X.Ends w0 G [bp] (fun v G' C' => v = .bool (ruleS 0 P l).2 ∧ C' = [(bp, Cells 26 (pcE (ruleS 0 P l).1))]) (fun _ _ _ => False)) := by
  refine enter Tryd.func103 rfl Tryd.ntmps103 rfl ?_
  intro Q hQ a HE
  have HS := St.start (C := [(bp, Cells 26 [(0, .int .i64 P.r0.way), (1, .int .i64 P.r0.size), (2, .int .i64 P.r1.way), (3, .int .i64 P.r1.size), (4, .int .i64 P.r2.way), (5, .int .i64 P.r2.size), (6, .int .i64 P.r3.way), (7, .int .i64 P.r3.size), (8, .int .i64 P.r4.way), (9, .int .i64 P.r4.size), (10, .int .i64 P.time), (11, .int .i64 P.note), (12, .bool P.loose), (13, .bool P.force)])]) hS0.sub (fun p hp => hS0.mem p (by simp only [List.flatten_cons, List.mem_append]; exact .inl hp)) (fun p hp => hS0.sep p (by simp only [List.flatten_cons, List.mem_append]; exact .inl hp)) (by simp [X.keys])
  change St w0 G [bp] G w0 _ at HS
  refine wp_seq_k (fun K hK => ?_); refine wp_region_lit ?_
  refine o_assign HE rfl rfl ?_; clear HE; intro a HE
  refine hK _ _ ?_; clear hK K
  refine wp_seq_k (fun K3 hK2 => ?_)
  refine wp_seq_k (fun K hK => ?_); refine wp_region_lit ?_
  refine o_move HE rfl rfl ?_; clear HE; intro a HE
  refine o_lenL HE rfl rfl Tryd.underlying29 ?_; clear HE; intro a HE
  refine o_eqI HE rfl rfl rfl ?_; clear HE; intro a HE
  refine hK _ _ ?_; clear hK K
  refine cond HE rfl (fun h5 => ?_) (fun h5 => ?_)
  · have h5r := h5; try simp only [Bool.not_eq_true', Bool.not_eq_false', Bool.and_eq_true, Bool.or_eq_true, Bool.or_eq_false_iff, Bool.and_eq_false_iff, decide_eq_true_eq, decide_eq_false_iff_not, beq_iff_eq, beq_eq_false_iff_ne, ne_eq] at h5
    refine wp_seq_k (fun K hK => ?_); refine wp_region_lit ?_
    refine o_assign HE rfl rfl ?_; clear HE; intro a HE
    refine hK _ _ ?_; clear hK K
    refine wp_ret ?_
    show Q .ret _ _
    refine ret hQ HE rfl (HE.res rfl .nil) ?_
    have he : ruleS 0 P l = ((⟨⟨P.r0.way, P.r0.size⟩, ⟨P.r1.way, P.r1.size⟩, ⟨P.r2.way, P.r2.size⟩, ⟨P.r3.way, P.r3.size⟩, ⟨P.r4.way, P.r4.size⟩, P.time, P.note, P.loose, P.force⟩ : Pol), false) := by
      unfold ruleS
      rw [if_pos (by omega)]
    exact ⟨_, [(bp, Cells 26 [(0, .int .i64 P.r0.way), (1, .int .i64 P.r0.size), (2, .int .i64 P.r1.way), (3, .int .i64 P.r1.size), (4, .int .i64 P.r2.way), (5, .int .i64 P.r2.size), (6, .int .i64 P.r3.way), (7, .int .i64 P.r3.size), (8, .int .i64 P.r4.way), (9, .int .i64 P.r4.size), (10, .int .i64 P.time), (11, .int .i64 P.note), (12, .bool P.loose), (13, .bool P.force)])], HS.stop (by simp), by rw [he] <;> rfl, by rw [he] <;> rfl⟩
  · have h5r := h5; try simp only [Bool.not_eq_true', Bool.not_eq_false', Bool.and_eq_true, Bool.or_eq_true, Bool.or_eq_false_iff, Bool.and_eq_false_iff, decide_eq_true_eq, decide_eq_false_iff_not, beq_iff_eq, beq_eq_false_iff_ne, ne_eq] at h5
    refine wp_skip ?_
    refine hK2 _ _ ?_; clear hK2
    refine wp_seq_k (fun K hK => ?_); refine wp_region_lit ?_
    refine o_move HE rfl rfl ?_; clear HE; intro a HE
    have hi7 : (0 : Int).toNat < l.length := by omega
    obtain ⟨eb7, eo7, hA7, el7⟩ := Rd.at hR (List.getElem?_eq_getElem hi7); cases hA7
    obtain ⟨x7, ex7⟩ : ∃ x, l[(0 : Int).toNat] = x := ⟨_, rfl⟩; rw [ex7] at el7
    have el7 := kof_open (enc := fun l => str l) el7
    refine o_ixL HE rfl rfl rfl T.l29 ⟨by omega, by omega⟩ ?_; clear HE; intro a HE
    refine o_ldI HE rfl HS rfl T.s9 el7 (j := 0) rfl rfl ?_; clear HE; intro a HE
    refine o_callP HE rfl HS rfl rfl T.g72 (c_way x7 _ _ HS.sub hgw) ?_
    clear HE HS; rintro _ w a HS rfl HE
    refine o_move HE rfl rfl ?_; clear HE; intro a HE
    refine o_extract HE rfl rfl rfl ?_; clear HE; intro a HE
    refine o_extract HE rfl rfl rfl ?_; clear HE; intro a HE
    refine o_assign HE rfl rfl ?_; clear HE; intro a HE
    refine o_assign HE rfl rfl ?_; clear HE; intro a HE
    refine hK _ _ ?_; clear hK K
    refine wp_seq_k (fun K hK => ?_); refine wp_region_lit ?_
    refine o_move HE rfl rfl ?_; clear HE; intro a HE
    refine o_build (cs := #[.int .i64 ((wayS x7).1), .int .i64 0]) HE rfl rfl (by kernel_rfl) ?_; clear HE; intro a HE
    refine o_allocL [(0, _), (1, _)] HE rfl HS T.z23 ⟨rfl, rfl, trivial⟩ ?_; clear HE HS; intro B8 w a HS HE
    refine o_stA HE HS rfl rfl rfl T.a23 (.here .here) rfl ?_; clear HS; intro w HS
    refine hK _ _ ?_; clear hK K
    refine wp_seq_k (fun K11 hK10 => ?_)
    refine wp_seq_k (fun K hK => ?_); refine wp_region_lit ?_
    refine o_move HE rfl rfl ?_; clear HE; intro a HE
    refine o_eqI HE rfl rfl rfl ?_; clear HE; intro a HE
    refine o_move HE rfl rfl ?_; clear HE; intro a HE
    refine cutL 4 (fun a' w' => w = w' ∧ Env a' 63 [] [(29, .bool ((decide (((wayS x7).1) = 2)) && (decide ((l.length : Int) = 2)))), (0, .pointer (some ⟨bp, 0, none⟩)), (1, .slice (some ⟨eb7, eo7, none⟩) l.length c), (2, .pointer (some ⟨bd, 0, none⟩)), (5, .bool false), (6, .int .i64 ((wayS x7).1)), (7, .bool ((wayS x7).2)), (8, .pointer (some ⟨B8, 0, none⟩)), (11, .slice (some ⟨eb7, eo7, none⟩) l.length c), (12, .int .i64 (l.length : Int)), (13, .bool (decide ((l.length : Int) = 0))), (14, .tuple #[.int .i64 ((wayS x7).1), .bool ((wayS x7).2)]), (15, .slice (some ⟨eb7, eo7, none⟩) l.length c), (16, .pointer (some ⟨eb7, eo7 + (0 : Int).toNat * 1, none⟩)), (17, str x7), (18, .tuple #[.int .i64 ((wayS x7).1), .bool ((wayS x7).2)]), (19, .int .i64 ((wayS x7).1)), (20, .bool ((wayS x7).2)), (21, .int .i64 ((wayS x7).1)), (22, .agg #[.int .i64 ((wayS x7).1), .int .i64 0])]) ?_ ?_
    · refine (Bool.eq_false_or_eq_true (decide (((wayS x7).1) = 2))).elim (fun hb12 => ?_) (fun hb12 => ?_)
      · skip
        have hk13 := hb12; try simp only [Bool.not_eq_true', Bool.not_eq_false', Bool.and_eq_true, Bool.or_eq_true, Bool.or_eq_false_iff, decide_eq_true_eq, decide_eq_false_iff_not, beq_iff_eq, beq_eq_false_iff_ne, ne_eq] at hk13
        refine op_on HE rfl rfl hb12 ?_
        refine o_move HE rfl rfl ?_; clear HE; intro a HE
        refine op_on HE rfl rfl hb12 ?_
        refine o_lenL HE rfl rfl Tryd.underlying29 ?_; clear HE; intro a HE
        refine op_on HE rfl rfl hb12 ?_
        refine o_eqI HE rfl rfl rfl ?_; clear HE; intro a HE
        refine o_pick_t HE rfl rfl hb12 rfl ?_; clear HE; intro a HE
        exact ⟨rfl, HE.cut ⟨by rw [hb12]; rfl, rfl, rfl, rfl, rfl, rfl, rfl, rfl, rfl, rfl, rfl, rfl, rfl, rfl, rfl, rfl, rfl, rfl, rfl, rfl, trivial⟩⟩
      · skip
        have hk14 := hb12; try simp only [Bool.not_eq_true', Bool.not_eq_false', Bool.and_eq_true, Bool.or_eq_true, Bool.or_eq_false_iff, decide_eq_true_eq, decide_eq_false_iff_not, beq_iff_eq, beq_eq_false_iff_ne, ne_eq] at hk14
        refine g_off HE rfl rfl rfl hb12 ?_; clear HE; intro a HE
        refine g_off HE rfl rfl rfl hb12 ?_; clear HE; intro a HE
        refine g_off HE rfl rfl rfl hb12 ?_; clear HE; intro a HE
        refine o_pick_f HE rfl rfl hb12 rfl ?_; clear HE; intro a HE
        exact ⟨rfl, HE.cut ⟨by rw [hb12]; rfl, rfl, rfl, rfl, rfl, rfl, rfl, rfl, rfl, rfl, rfl, rfl, rfl, rfl, rfl, rfl, rfl, rfl, rfl, rfl, trivial⟩⟩
    clear HE; rintro a _ ⟨rfl, HE⟩
    refine hK _ _ ?_; clear hK K
    refine cond HE rfl (fun h16 => ?_) (fun h16 => ?_)
    · have h16r := h16; try simp only [Bool.not_eq_true', Bool.not_eq_false', Bool.and_eq_true, Bool.or_eq_true, Bool.or_eq_false_iff, Bool.and_eq_false_iff, decide_eq_true_eq, decide_eq_false_iff_not, beq_iff_eq, beq_eq_false_iff_ne, ne_eq] at h16
      refine wp_seq_k (fun K hK => ?_); refine wp_region_lit ?_
      refine o_move HE rfl rfl ?_; clear HE; intro a HE
      have hi17 : (1 : Int).toNat < l.length := by omega
      obtain ⟨eb17, eo17, hA17, el17⟩ := Rd.at hR (List.getElem?_eq_getElem hi17); cases hA17
      obtain ⟨x17, ex17⟩ : ∃ x, l[(1 : Int).toNat] = x := ⟨_, rfl⟩; rw [ex17] at el17
      have el17 := kof_open (enc := fun l => str l) el17
      refine o_ixL HE rfl rfl rfl T.l29 ⟨by omega, by omega⟩ ?_; clear HE; intro a HE
      refine o_ldI HE rfl HS rfl T.s9 el17 (j := 0) rfl rfl ?_; clear HE; intro a HE
      have hxl17 : x17.length ≤ 4294967280 := by rw [← ex17]; exact hls _ (List.getElem_mem _)
      refine o_callP HE rfl HS rfl rfl T.g84 (c_count x17 16 _ _ HS.sub (by first | assumption | decide) (by first | omega | (simp; done) | (simp; omega))) ?_
      clear HE HS; rintro _ w a HS rfl HE
      refine o_move HE rfl rfl ?_; clear HE; intro a HE
      refine o_extract HE rfl rfl rfl ?_; clear HE; intro a HE
      refine o_extract HE rfl rfl rfl ?_; clear HE; intro a HE
      refine o_assign HE rfl rfl ?_; clear HE; intro a HE
      refine o_assign HE rfl rfl ?_; clear HE; intro a HE
      refine hK _ _ ?_; clear hK K
      refine wp_seq_k (fun K hK => ?_); refine wp_region_lit ?_
      refine o_move HE rfl rfl ?_; clear HE; intro a HE
      refine o_move HE rfl rfl ?_; clear HE; intro a HE
      refine cutL 3 (fun a' w' => w = w' ∧ Env a' 63 [] [(41, .bool (((wayS x7).2) && (decide ((erv (countS x17 16)) = 0)))), (0, .pointer (some ⟨bp, 0, none⟩)), (1, .slice (some ⟨eb7, eo7, none⟩) l.length c), (2, .pointer (some ⟨bd, 0, none⟩)), (5, .bool false), (6, .int .i64 ((wayS x7).1)), (7, .bool ((wayS x7).2)), (8, .pointer (some ⟨B8, 0, none⟩)), (9, .int .i64 (okv (countS x17 16))), (11, .slice (some ⟨eb7, eo7, none⟩) l.length c), (12, .int .i64 (l.length : Int)), (13, .bool (decide ((l.length : Int) = 0))), (14, .tuple #[.int .i64 ((wayS x7).1), .bool ((wayS x7).2)]), (15, .slice (some ⟨eb7, eo7, none⟩) l.length c), (16, .pointer (some ⟨eb7, eo7 + (0 : Int).toNat * 1, none⟩)), (17, str x7), (18, .tuple #[.int .i64 ((wayS x7).1), .bool ((wayS x7).2)]), (19, .int .i64 ((wayS x7).1)), (20, .bool ((wayS x7).2)), (21, .int .i64 ((wayS x7).1)), (22, .agg #[.int .i64 ((wayS x7).1), .int .i64 0]), (29, .bool ((decide (((wayS x7).1) = 2)) && (decide ((l.length : Int) = 2)))), (30, .tuple #[.int .i64 (okv (countS x17 16)), .int .i64 (erv (countS x17 16))]), (31, .slice (some ⟨eb7, eo7, none⟩) l.length c), (32, .pointer (some ⟨eb7, eo7 + (1 : Int).toNat * 1, none⟩)), (33, str x17), (34, .tuple #[.int .i64 (okv (countS x17 16)), .int .i64 (erv (countS x17 16))]), (35, .int .i64 (okv (countS x17 16))), (36, .int .i64 (erv (countS x17 16)))]) ?_ ?_
      · refine (Bool.eq_false_or_eq_true ((wayS x7).2)).elim (fun hb19 => ?_) (fun hb19 => ?_)
        · skip
          have hk20 := hb19; try simp only [Bool.not_eq_true', Bool.not_eq_false', Bool.and_eq_true, Bool.or_eq_true, Bool.or_eq_false_iff, decide_eq_true_eq, decide_eq_false_iff_not, beq_iff_eq, beq_eq_false_iff_ne, ne_eq] at hk20
          refine op_on HE rfl rfl hb19 ?_
          refine o_move HE rfl rfl ?_; clear HE; intro a HE
          refine op_on HE rfl rfl hb19 ?_
          refine o_eqI HE rfl rfl rfl ?_; clear HE; intro a HE
          refine o_pick_t HE rfl rfl hb19 rfl ?_; clear HE; intro a HE
          exact ⟨rfl, HE.cut ⟨by rw [hb19]; rfl, rfl, rfl, rfl, rfl, rfl, rfl, rfl, rfl, rfl, rfl, rfl, rfl, rfl, rfl, rfl, rfl, rfl, rfl, rfl, rfl, rfl, rfl, rfl, rfl, rfl, rfl, rfl, rfl, trivial⟩⟩
        · skip
          have hk21 := hb19; try simp only [Bool.not_eq_true', Bool.not_eq_false', Bool.and_eq_true, Bool.or_eq_true, Bool.or_eq_false_iff, decide_eq_true_eq, decide_eq_false_iff_not, beq_iff_eq, beq_eq_false_iff_ne, ne_eq] at hk21
          refine g_off HE rfl rfl rfl hb19 ?_; clear HE; intro a HE
          refine g_off HE rfl rfl rfl hb19 ?_; clear HE; intro a HE
          refine o_pick_f HE rfl rfl hb19 rfl ?_; clear HE; intro a HE
          exact ⟨rfl, HE.cut ⟨by rw [hb19]; rfl, rfl, rfl, rfl, rfl, rfl, rfl, rfl, rfl, rfl, rfl, rfl, rfl, rfl, rfl, rfl, rfl, rfl, rfl, rfl, rfl, rfl, rfl, rfl, rfl, rfl, rfl, rfl, rfl, trivial⟩⟩
      clear HE; rintro a _ ⟨rfl, HE⟩
      refine o_assign HE rfl rfl ?_; clear HE; intro a HE
      refine hK _ _ ?_; clear hK K
      replace HS := HS.conv (L2 := [(0, _), (1, _)]) (.here .here) ⟨rfl, rfl, trivial⟩
      have HE0 := HE
      have hR23 := Rd.take hR (1 : Int).toNat
      replace HE := HE.cut (L' := [(0, .pointer (some ⟨bp, 0, none⟩)), (2, .pointer (some ⟨bd, 0, none⟩)), (5, .bool false), (6, .int .i64 ((wayS x7).1)), (7, .bool (((wayS x7).2) && (decide ((erv (countS x17 16)) = 0)))), (8, .pointer (some ⟨B8, 0, none⟩)), (9, .int .i64 (okv (countS x17 16))), (11, .slice (some ⟨eb7, eo7, none⟩) l.length c), (12, .int .i64 (l.length : Int)), (13, .bool (decide ((l.length : Int) = 0))), (14, .tuple #[.int .i64 ((wayS x7).1), .bool ((wayS x7).2)]), (15, .slice (some ⟨eb7, eo7, none⟩) l.length c), (16, .pointer (some ⟨eb7, eo7 + (0 : Int).toNat * 1, none⟩)), (17, str x7), (18, .tuple #[.int .i64 ((wayS x7).1), .bool ((wayS x7).2)]), (19, .int .i64 ((wayS x7).1)), (20, .bool ((wayS x7).2)), (21, .int .i64 ((wayS x7).1)), (22, .agg #[.int .i64 ((wayS x7).1), .int .i64 0]), (29, .bool ((decide (((wayS x7).1) = 2)) && (decide ((l.length : Int) = 2)))), (30, .tuple #[.int .i64 (okv (countS x17 16)), .int .i64 (erv (countS x17 16))]), (31, .slice (some ⟨eb7, eo7, none⟩) l.length c), (32, .pointer (some ⟨eb7, eo7 + (1 : Int).toNat * 1, none⟩)), (33, str x17), (34, .tuple #[.int .i64 (okv (countS x17 16)), .int .i64 (erv (countS x17 16))]), (35, .int .i64 (okv (countS x17 16))), (36, .int .i64 (erv (countS x17 16))), (41, .bool (((wayS x7).2) && (decide ((erv (countS x17 16)) = 0))))]) ⟨rfl, rfl, rfl, rfl, rfl, rfl, rfl, rfl, rfl, rfl, rfl, rfl, rfl, rfl, rfl, rfl, rfl, rfl, rfl, rfl, rfl, rfl, rfl, rfl, rfl, rfl, rfl, rfl, trivial⟩
      refine drawnF (fun f G' w => Heap.le G G' ∧ St w0 G [bp] G' w [[(B8, Cells 23 [(0, .int .i64 ((wayS x7).1)), (1, bif f 4 then .int .i64 (okv (countS x17 16)) else .int .i64 0)])], [(bp, Cells 26 [(0, .int .i64 P.r0.way), (1, .int .i64 P.r0.size), (2, .int .i64 P.r1.way), (3, .int .i64 P.r1.size), (4, .int .i64 P.r2.way), (5, .int .i64 P.r2.size), (6, .int .i64 P.r3.way), (7, .int .i64 P.r3.size), (8, .int .i64 P.r4.way), (9, .int .i64 P.r4.size), (10, .int .i64 P.time), (11, .int .i64 P.note), (12, .bool P.loose), (13, .bool P.force)])]]) [fun v _ => v = .int .i64 (okv (countS x17 16)), fun v _ => v = .slice (some ⟨eb7, eo7, none⟩) l.length c, fun v _ => v = .slice (some ⟨eb7, eo7, none⟩) (((l).take (1 : Int).toNat).length) c, fun v _ => v = .pointer (some ⟨B8, 1, none⟩), fun _ _ => True, fun v _ => v = .slice (some ⟨eb7, eo7, none⟩) (((l).take (1 : Int).toNat).length) c] [(1, .slice (some ⟨eb7, eo7, none⟩) l.length c, 5)] T.mix rfl HE ⟨Heap.le.refl _, HS.drew⟩ rfl (fun t v k h => by simp only [List.mem_cons, Prod.mk.injEq, List.not_mem_nil, or_false] at h; obtain ⟨rfl, rfl, rfl⟩ := h; exact ⟨HE0.get _ _ rfl, rfl⟩) (AllM.get ⟨fun _ _ _ _ h => h, fun _ _ _ _ h => h, fun _ _ _ _ h => h, fun _ _ _ _ h => h, fun _ _ _ _ h => h, fun _ _ _ _ h => h, trivial⟩) ⟨?_, ?_, ?_, ?_, ?_, ?_, trivial⟩ ?_
      · intro a w G1 f hcl hfi hon hW HE hp hO; obtain ⟨hl, HS⟩ := hW
        refine o_move HE rfl rfl ?_; clear HE; intro a HE
        exact ⟨_, _, Heap.le.refl _, ⟨hl, HS⟩, fun d hd => (by cases hd; exact HE.get _ _ rfl), HE.defers, rfl⟩
      · intro a w G1 f hcl hfi hon hW HE hp hO; obtain ⟨hl, HS⟩ := hW
        have hfk : f 5 = false := by
          cases hq : f 5 with
          | false => rfl
          | true =>
            have hq := hcl 5 _ rfl hq 2 rfl
            have hq := hcl 2 _ rfl hq 1 rfl
            rw [hfi] at hq; cases hq
        replace HE := HE.add (hO 1 (.slice (some ⟨eb7, eo7, none⟩) l.length c) 5 (by simp) hfk)
        refine o_move HE rfl rfl ?_; clear HE; intro a HE
        exact ⟨_, _, Heap.le.refl _, ⟨hl, HS⟩, fun d hd => (by cases hd; exact HE.get _ _ rfl), HE.defers, rfl⟩
      · intro a w G1 f hcl hfi hon hW HE hp hO; obtain ⟨hl, HS⟩ := hW
        obtain ⟨_, e1, rfl⟩ := hp 1 43 _ (hon 1 rfl) rfl rfl; replace HE := HE.add e1
        refine o_sliceRHi (K := Knd.s) (k := (1 : Int)) HE rfl rfl rfl T.l29 hR rfl (by omega) (by omega) ?_; clear HE; intro a _ _ HE
        exact ⟨_, _, Heap.le.refl _, ⟨hl, HS⟩, fun d hd => (by cases hd; exact HE.get _ _ rfl), HE.defers, rfl⟩
      · intro a w G1 f hcl hfi hon hW HE hp hO; obtain ⟨hl, HS⟩ := hW
        refine o_fld HE rfl rfl T.f23_1 ?_; clear HE; intro a HE
        exact ⟨_, _, Heap.le.refl _, ⟨hl, HS⟩, fun d hd => (by cases hd; exact HE.get _ _ rfl), HE.defers, rfl⟩
      · intro a w G1 f hcl hfi hon hW HE hp hO; obtain ⟨hl, HS⟩ := hW
        obtain ⟨_, e3, rfl⟩ := hp 3 45 _ (hon 3 rfl) rfl rfl; replace HE := HE.add e3
        obtain ⟨_, e0, rfl⟩ := hp 0 42 _ (hon 0 rfl) rfl rfl; replace HE := HE.add e0
        refine o_st HE HS rfl rfl rfl T.s3 (.here .here) rfl ?_; clear HS; intro w HS
        replace HS := HS.conv (L2 := [(0, _), (1, _)]) (.here .here) ⟨rfl, rfl, trivial⟩
        exact ⟨.bool true, _, Heap.le.refl _, ⟨hl, HS⟩, fun d hd => (by cases hd), HE.defers, trivial⟩
      · intro a w G1 f hcl hfi hon hW HE hp hO; obtain ⟨hl, HS⟩ := hW
        obtain ⟨_, e2, rfl⟩ := hp 2 44 _ (hon 2 rfl) rfl rfl; replace HE := HE.add e2
        refine o_assign HE rfl rfl ?_; clear HE; intro a HE
        exact ⟨_, _, Heap.le.refl _, ⟨hl, HS⟩, fun d hd => (by cases hd; exact HE.get _ _ rfl), HE.defers, rfl⟩
      clear HE HS; intro a w G24 f hle25 hall HW HE hp; obtain ⟨_, HS⟩ := HW
      have hfw4 := hall 4 (by decide)
      simp only [hfw4, cond_true] at HS
      replace hR := hR.le hle25
      replace hCd := hCd.le hle25
      replace hgw := hgw.le hle25
      replace hR23 := hR23.le hle25
      obtain ⟨_, e5, rfl⟩ := hp 5 1 _ rfl rfl; replace HE := HE.add e5
      clear hp hall
      refine hK10 _ _ ?_; clear hK10
      refine wp_seq_k (fun K27 hK26 => ?_)
      replace HE := HE.cut (L' := [(0, .pointer (some ⟨bp, 0, none⟩)), (1, .slice (some ⟨eb7, eo7, none⟩) (((l).take (1 : Int).toNat).length) c), (2, .pointer (some ⟨bd, 0, none⟩)), (5, .bool false), (6, .int .i64 ((wayS x7).1)), (7, .bool (((wayS x7).2) && (decide ((erv (countS x17 16)) = 0)))), (8, .pointer (some ⟨B8, 0, none⟩)), (9, .int .i64 (okv (countS x17 16))), (11, .slice (some ⟨eb7, eo7, none⟩) l.length c), (12, .int .i64 (l.length : Int)), (13, .bool (decide ((l.length : Int) = 0))), (14, .tuple #[.int .i64 ((wayS x7).1), .bool ((wayS x7).2)]), (15, .slice (some ⟨eb7, eo7, none⟩) l.length c), (16, .pointer (some ⟨eb7, eo7 + (0 : Int).toNat * 1, none⟩)), (17, str x7), (18, .tuple #[.int .i64 ((wayS x7).1), .bool ((wayS x7).2)]), (19, .int .i64 ((wayS x7).1)), (20, .bool ((wayS x7).2)), (21, .int .i64 ((wayS x7).1)), (22, .agg #[.int .i64 ((wayS x7).1), .int .i64 0]), (29, .bool ((decide (((wayS x7).1) = 2)) && (decide ((l.length : Int) = 2)))), (30, .tuple #[.int .i64 (okv (countS x17 16)), .int .i64 (erv (countS x17 16))]), (31, .slice (some ⟨eb7, eo7, none⟩) l.length c), (32, .pointer (some ⟨eb7, eo7 + (1 : Int).toNat * 1, none⟩)), (33, str x17), (34, .tuple #[.int .i64 (okv (countS x17 16)), .int .i64 (erv (countS x17 16))]), (35, .int .i64 (okv (countS x17 16))), (36, .int .i64 (erv (countS x17 16))), (41, .bool (((wayS x7).2) && (decide ((erv (countS x17 16)) = 0))))]) ⟨rfl, rfl, rfl, rfl, rfl, rfl, rfl, rfl, rfl, rfl, rfl, rfl, rfl, rfl, rfl, rfl, rfl, rfl, rfl, rfl, rfl, rfl, rfl, rfl, rfl, rfl, rfl, rfl, rfl, trivial⟩
      refine drawnF (fun f G' w => Heap.le G24 G' ∧ St w0 G [bp] G' w [[(B8, Cells 23 [(0, .int .i64 ((wayS x7).1)), (1, .int .i64 (okv (countS x17 16)))])], [(bp, Cells 26 [(0, bif f 6 then .int .i64 ((wayS x7).1) else .int .i64 P.r0.way), (1, bif f 6 then .int .i64 (okv (countS x17 16)) else .int .i64 P.r0.size), (2, .int .i64 P.r1.way), (3, .int .i64 P.r1.size), (4, .int .i64 P.r2.way), (5, .int .i64 P.r2.size), (6, .int .i64 P.r3.way), (7, .int .i64 P.r3.size), (8, .int .i64 P.r4.way), (9, .int .i64 P.r4.size), (10, .int .i64 P.time), (11, .int .i64 P.note), (12, .bool P.loose), (13, .bool P.force)])]]) [fun v _ => v = .pointer (some ⟨bp, 0, none⟩), fun v _ => v = .int .i64 0, fun v _ => v = .agg #[.int .i64 ((wayS x7).1), .int .i64 (okv (countS x17 16))], fun v _ => v = .pointer (some ⟨bp, 0, none⟩), fun v _ => v = .pointer (some ⟨bp, 0, none⟩), fun v _ => v = .pointer (some ⟨bp, 0, none⟩), fun _ _ => True] [] T.mix rfl HE ⟨Heap.le.refl _, HS.drew⟩ rfl (by simp) (AllM.get ⟨fun _ _ _ _ h => h, fun _ _ _ _ h => h, fun _ _ _ _ h => h, fun _ _ _ _ h => h, fun _ _ _ _ h => h, fun _ _ _ _ h => h, fun _ _ _ _ h => h, trivial⟩) ⟨?_, ?_, ?_, ?_, ?_, ?_, ?_, trivial⟩ ?_
      · intro a w G1 f hcl hfi hon hW HE hp hO; obtain ⟨hl, HS⟩ := hW
        refine o_move HE rfl rfl ?_; clear HE; intro a HE
        exact ⟨_, _, Heap.le.refl _, ⟨hl, HS⟩, fun d hd => (by cases hd; exact HE.get _ _ rfl), HE.defers, rfl⟩
      · intro a w G1 f hcl hfi hon hW HE hp hO; obtain ⟨hl, HS⟩ := hW
        refine o_ldI HE rfl HS rfl T.s3 (hCd.le hl) (j := 0) rfl rfl ?_; clear HE; intro a HE
        exact ⟨_, _, Heap.le.refl _, ⟨hl, HS⟩, fun d hd => (by cases hd; exact HE.get _ _ rfl), HE.defers, rfl⟩
      · intro a w G1 f hcl hfi hon hW HE hp hO; obtain ⟨hl, HS⟩ := hW
        refine o_ldA HE rfl HS rfl T.a23 (.here .here) rfl ?_; clear HE; intro a HE
        exact ⟨_, _, Heap.le.refl _, ⟨hl, HS⟩, fun d hd => (by cases hd; exact HE.get _ _ rfl), HE.defers, rfl⟩
      · intro a w G1 f hcl hfi hon hW HE hp hO; obtain ⟨hl, HS⟩ := hW
        obtain ⟨_, e0, rfl⟩ := hp 0 46 _ (hon 0 rfl) rfl rfl; replace HE := HE.add e0
        refine o_nil HE rfl rfl ?_; clear HE; intro a HE
        exact ⟨_, _, Heap.le.refl _, ⟨hl, HS⟩, fun d hd => (by cases hd; exact HE.get _ _ rfl), HE.defers, rfl⟩
      · intro a w G1 f hcl hfi hon hW HE hp hO; obtain ⟨hl, HS⟩ := hW
        obtain ⟨_, e3, rfl⟩ := hp 3 49 _ (hon 3 rfl) rfl rfl; replace HE := HE.add e3
        refine o_fld HE rfl rfl T.f26_0 ?_; clear HE; intro a HE
        exact ⟨_, _, Heap.le.refl _, ⟨hl, HS⟩, fun d hd => (by cases hd; exact HE.get _ _ rfl), HE.defers, rfl⟩
      · intro a w G1 f hcl hfi hon hW HE hp hO; obtain ⟨hl, HS⟩ := hW
        obtain ⟨_, e4, rfl⟩ := hp 4 50 _ (hon 4 rfl) rfl rfl; replace HE := HE.add e4
        obtain ⟨_, e1, rfl⟩ := hp 1 47 _ (hon 1 rfl) rfl rfl; replace HE := HE.add e1
        refine o_ixA HE rfl rfl rfl T.r24 (by decide) ?_; clear HE; intro a HE
        exact ⟨_, _, Heap.le.refl _, ⟨hl, HS⟩, fun d hd => (by cases hd; exact HE.get _ _ rfl), HE.defers, rfl⟩
      · intro a w G1 f hcl hfi hon hW HE hp hO; obtain ⟨hl, HS⟩ := hW
        obtain ⟨_, e5, rfl⟩ := hp 5 51 _ (hon 5 rfl) rfl rfl; replace HE := HE.add e5
        obtain ⟨_, e2, rfl⟩ := hp 2 48 _ (hon 2 rfl) rfl rfl; replace HE := HE.add e2
        refine o_stA HE HS rfl rfl rfl T.a23 (.there (.here .here)) rfl ?_; clear HS; intro w HS
        replace HS := HS.conv (L2 := [(0, _), (1, _), (2, _), (3, _), (4, _), (5, _), (6, _), (7, _), (8, _), (9, _), (10, _), (11, _), (12, _), (13, _)]) (.there (.here .here)) ⟨rfl, rfl, rfl, rfl, rfl, rfl, rfl, rfl, rfl, rfl, rfl, rfl, rfl, rfl, trivial⟩
        exact ⟨.bool true, _, Heap.le.refl _, ⟨hl, HS⟩, fun d hd => (by cases hd), HE.defers, trivial⟩
      clear HE HS; intro a w G28 f hle29 hall HW HE hp; obtain ⟨_, HS⟩ := HW
      have hfw6 := hall 6 (by decide)
      simp only [hfw6, cond_true] at HS
      replace hR := hR.le hle29
      replace hCd := hCd.le hle29
      replace hgw := hgw.le hle29
      replace hR23 := hR23.le hle29
      clear hp hall
      refine hK26 _ _ ?_; clear hK26
      refine wp_seq_k (fun K hK => ?_); refine wp_region_lit ?_
      refine o_move HE rfl rfl ?_; clear HE; intro a HE
      refine o_move HE rfl rfl ?_; clear HE; intro a HE
      refine cutL 4 (fun a' w' => w = w' ∧ Env a' 63 [] [(57, .bool ((((wayS x7).2) && (decide ((erv (countS x17 16)) = 0))) && (decide ((((l).take (1 : Int).toNat).length : Int) = 1)))), (0, .pointer (some ⟨bp, 0, none⟩)), (1, .slice (some ⟨eb7, eo7, none⟩) (((l).take (1 : Int).toNat).length) c), (2, .pointer (some ⟨bd, 0, none⟩)), (5, .bool false), (6, .int .i64 ((wayS x7).1)), (7, .bool (((wayS x7).2) && (decide ((erv (countS x17 16)) = 0)))), (8, .pointer (some ⟨B8, 0, none⟩)), (9, .int .i64 (okv (countS x17 16))), (11, .slice (some ⟨eb7, eo7, none⟩) l.length c), (12, .int .i64 (l.length : Int)), (13, .bool (decide ((l.length : Int) = 0))), (14, .tuple #[.int .i64 ((wayS x7).1), .bool ((wayS x7).2)]), (15, .slice (some ⟨eb7, eo7, none⟩) l.length c), (16, .pointer (some ⟨eb7, eo7 + (0 : Int).toNat * 1, none⟩)), (17, str x7), (18, .tuple #[.int .i64 ((wayS x7).1), .bool ((wayS x7).2)]), (19, .int .i64 ((wayS x7).1)), (20, .bool ((wayS x7).2)), (21, .int .i64 ((wayS x7).1)), (22, .agg #[.int .i64 ((wayS x7).1), .int .i64 0]), (29, .bool ((decide (((wayS x7).1) = 2)) && (decide ((l.length : Int) = 2)))), (30, .tuple #[.int .i64 (okv (countS x17 16)), .int .i64 (erv (countS x17 16))]), (31, .slice (some ⟨eb7, eo7, none⟩) l.length c), (32, .pointer (some ⟨eb7, eo7 + (1 : Int).toNat * 1, none⟩)), (33, str x17), (34, .tuple #[.int .i64 (okv (countS x17 16)), .int .i64 (erv (countS x17 16))]), (35, .int .i64 (okv (countS x17 16))), (36, .int .i64 (erv (countS x17 16))), (41, .bool (((wayS x7).2) && (decide ((erv (countS x17 16)) = 0))))]) ?_ ?_
      · refine (Bool.eq_false_or_eq_true (((wayS x7).2) && (decide ((erv (countS x17 16)) = 0)))).elim (fun hb30 => ?_) (fun hb30 => ?_)
        · skip
          have hk31 := hb30; try simp only [Bool.not_eq_true', Bool.not_eq_false', Bool.and_eq_true, Bool.or_eq_true, Bool.or_eq_false_iff, decide_eq_true_eq, decide_eq_false_iff_not, beq_iff_eq, beq_eq_false_iff_ne, ne_eq] at hk31
          refine op_on HE rfl rfl hb30 ?_
          refine o_move HE rfl rfl ?_; clear HE; intro a HE
          refine op_on HE rfl rfl hb30 ?_
          refine o_lenL HE rfl rfl Tryd.underlying29 ?_; clear HE; intro a HE
          refine op_on HE rfl rfl hb30 ?_
          refine o_eqI HE rfl rfl rfl ?_; clear HE; intro a HE
          refine o_pick_t HE rfl rfl hb30 rfl ?_; clear HE; intro a HE
          exact ⟨rfl, HE.cut ⟨by rw [hb30]; rfl, rfl, rfl, rfl, rfl, rfl, rfl, rfl, rfl, rfl, rfl, rfl, rfl, rfl, rfl, rfl, rfl, rfl, rfl, rfl, rfl, rfl, rfl, rfl, rfl, rfl, rfl, rfl, rfl, rfl, trivial⟩⟩
        · skip
          have hk32 := hb30; try simp only [Bool.not_eq_true', Bool.not_eq_false', Bool.and_eq_true, Bool.or_eq_true, Bool.or_eq_false_iff, decide_eq_true_eq, decide_eq_false_iff_not, beq_iff_eq, beq_eq_false_iff_ne, ne_eq] at hk32
          refine g_off HE rfl rfl rfl hb30 ?_; clear HE; intro a HE
          refine g_off HE rfl rfl rfl hb30 ?_; clear HE; intro a HE
          refine g_off HE rfl rfl rfl hb30 ?_; clear HE; intro a HE
          refine o_pick_f HE rfl rfl hb30 rfl ?_; clear HE; intro a HE
          exact ⟨rfl, HE.cut ⟨by rw [hb30]; rfl, rfl, rfl, rfl, rfl, rfl, rfl, rfl, rfl, rfl, rfl, rfl, rfl, rfl, rfl, rfl, rfl, rfl, rfl, rfl, rfl, rfl, rfl, rfl, rfl, rfl, rfl, rfl, rfl, rfl, trivial⟩⟩
      clear HE; rintro a _ ⟨rfl, HE⟩
      refine o_move HE rfl rfl ?_; clear HE; intro a HE
      obtain ⟨M0, hM0, HS⟩ : ∃ M0, M0 = _ ∧ St w0 G [bp] G28 _ M0 := ⟨_, rfl, HS⟩
      refine cutL 4 (fun a' w' => St w0 G [bp] G28 w' M0 ∧ Env a' 63 [] [(62, .bool (((((wayS x7).2) && (decide ((erv (countS x17 16)) = 0))) && (decide ((((l).take (1 : Int).toNat).length : Int) = 1))) && (ruledB 0 ⟨(wayS x7).1, okv (countS x17 16)⟩))), (0, .pointer (some ⟨bp, 0, none⟩)), (1, .slice (some ⟨eb7, eo7, none⟩) (((l).take (1 : Int).toNat).length) c), (2, .pointer (some ⟨bd, 0, none⟩)), (5, .bool false), (6, .int .i64 ((wayS x7).1)), (7, .bool (((wayS x7).2) && (decide ((erv (countS x17 16)) = 0)))), (8, .pointer (some ⟨B8, 0, none⟩)), (9, .int .i64 (okv (countS x17 16))), (11, .slice (some ⟨eb7, eo7, none⟩) l.length c), (12, .int .i64 (l.length : Int)), (13, .bool (decide ((l.length : Int) = 0))), (14, .tuple #[.int .i64 ((wayS x7).1), .bool ((wayS x7).2)]), (15, .slice (some ⟨eb7, eo7, none⟩) l.length c), (16, .pointer (some ⟨eb7, eo7 + (0 : Int).toNat * 1, none⟩)), (17, str x7), (18, .tuple #[.int .i64 ((wayS x7).1), .bool ((wayS x7).2)]), (19, .int .i64 ((wayS x7).1)), (20, .bool ((wayS x7).2)), (21, .int .i64 ((wayS x7).1)), (22, .agg #[.int .i64 ((wayS x7).1), .int .i64 0]), (29, .bool ((decide (((wayS x7).1) = 2)) && (decide ((l.length : Int) = 2)))), (30, .tuple #[.int .i64 (okv (countS x17 16)), .int .i64 (erv (countS x17 16))]), (31, .slice (some ⟨eb7, eo7, none⟩) l.length c), (32, .pointer (some ⟨eb7, eo7 + (1 : Int).toNat * 1, none⟩)), (33, str x17), (34, .tuple #[.int .i64 (okv (countS x17 16)), .int .i64 (erv (countS x17 16))]), (35, .int .i64 (okv (countS x17 16))), (36, .int .i64 (erv (countS x17 16))), (41, .bool (((wayS x7).2) && (decide ((erv (countS x17 16)) = 0))))]) ?_ ?_
      · refine (Bool.eq_false_or_eq_true ((((wayS x7).2) && (decide ((erv (countS x17 16)) = 0))) && (decide ((((l).take (1 : Int).toNat).length : Int) = 1)))).elim (fun hb33 => ?_) (fun hb33 => ?_)
        · subst hM0
          have hk34 := hb33; try simp only [Bool.not_eq_true', Bool.not_eq_false', Bool.and_eq_true, Bool.or_eq_true, Bool.or_eq_false_iff, decide_eq_true_eq, decide_eq_false_iff_not, beq_iff_eq, beq_eq_false_iff_ne, ne_eq] at hk34
          refine op_on HE rfl rfl hb33 ?_
          refine o_ldI HE rfl HS rfl T.s3 hCd (j := 0) rfl rfl ?_; clear HE; intro a HE
          refine op_on HE rfl rfl hb33 ?_
          refine o_ldA HE rfl HS rfl T.a23 (.here .here) rfl ?_; clear HE; intro a HE
          refine op_on HE rfl rfl hb33 ?_
          refine o_callP HE rfl HS rfl rfl T.g41 (c_ruled 0 (⟨(wayS x7).1, okv (countS x17 16)⟩ : Rul) _ _ HS.sub) ?_
          clear HE HS; rintro _ w a HS rfl HE
          refine o_pick_t HE rfl rfl hb33 rfl ?_; clear HE; intro a HE
          exact ⟨HS, HE.cut ⟨by rw [hb33]; rfl, rfl, rfl, rfl, rfl, rfl, rfl, rfl, rfl, rfl, rfl, rfl, rfl, rfl, rfl, rfl, rfl, rfl, rfl, rfl, rfl, rfl, rfl, rfl, rfl, rfl, rfl, rfl, rfl, rfl, trivial⟩⟩
        · subst hM0
          have hk35 := hb33; try simp only [Bool.not_eq_true', Bool.not_eq_false', Bool.and_eq_true, Bool.or_eq_true, Bool.or_eq_false_iff, decide_eq_true_eq, decide_eq_false_iff_not, beq_iff_eq, beq_eq_false_iff_ne, ne_eq] at hk35
          refine g_off HE rfl rfl rfl hb33 ?_; clear HE; intro a HE
          refine g_off HE rfl rfl rfl hb33 ?_; clear HE; intro a HE
          refine g_off HE rfl rfl rfl hb33 ?_; clear HE; intro a HE
          refine o_pick_f HE rfl rfl hb33 rfl ?_; clear HE; intro a HE
          exact ⟨HS, HE.cut ⟨by rw [hb33]; rfl, rfl, rfl, rfl, rfl, rfl, rfl, rfl, rfl, rfl, rfl, rfl, rfl, rfl, rfl, rfl, rfl, rfl, rfl, rfl, rfl, rfl, rfl, rfl, rfl, rfl, rfl, rfl, rfl, rfl, trivial⟩⟩
      clear HE HS; rintro a w ⟨HS, HE⟩; subst hM0
      refine o_assign HE rfl rfl ?_; clear HE; intro a HE
      refine hK _ _ ?_; clear hK K
      refine wp_ret ?_
      show Q .ret _ _
      refine ret hQ HE rfl (HE.res rfl .nil) ?_
      replace HS := HS.drop (M' := [_]) (sub_drop (sub_keep sub_nil))
      have e0 : w0S l = wayS x7 := by unfold w0S; rw [get0 ex7]
      have e1 := get1 ex17
      have he : ruleS 0 P l = ((⟨⟨(wayS x7).1, okv (countS x17 16)⟩, ⟨P.r1.way, P.r1.size⟩, ⟨P.r2.way, P.r2.size⟩, ⟨P.r3.way, P.r3.size⟩, ⟨P.r4.way, P.r4.size⟩, P.time, P.note, P.loose, P.force⟩ : Pol), ((((wayS x7).2) && (decide ((erv (countS x17 16)) = 0))) && (decide ((((l).take (1 : Int).toNat).length : Int) = 1))) && (ruledB 0 ⟨(wayS x7).1, okv (countS x17 16)⟩)) := by
        unfold ruleS
        rw [if_neg (by omega), if_pos (by rw [e0]; omega), e0, e1]
        rw [show decide (((l.take (1 : Int).toNat).length : Int) = 1) = true from decide_eq_true (by rw [List.length_take]; omega), Bool.and_true]
        rfl
      exact ⟨_, [(bp, Cells 26 [(0, .int .i64 ((wayS x7).1)), (1, .int .i64 (okv (countS x17 16))), (2, .int .i64 P.r1.way), (3, .int .i64 P.r1.size), (4, .int .i64 P.r2.way), (5, .int .i64 P.r2.size), (6, .int .i64 P.r3.way), (7, .int .i64 P.r3.size), (8, .int .i64 P.r4.way), (9, .int .i64 P.r4.size), (10, .int .i64 P.time), (11, .int .i64 P.note), (12, .bool P.loose), (13, .bool P.force)])], HS.stop (by simp), by rw [he] <;> rfl, by rw [he] <;> rfl⟩
    · have h16r := h16; try simp only [Bool.not_eq_true', Bool.not_eq_false', Bool.and_eq_true, Bool.or_eq_true, Bool.or_eq_false_iff, Bool.and_eq_false_iff, decide_eq_true_eq, decide_eq_false_iff_not, beq_iff_eq, beq_eq_false_iff_ne, ne_eq] at h16
      refine wp_skip ?_
      refine hK10 _ _ ?_; clear hK10
      refine wp_seq_k (fun K38 hK37 => ?_)
      replace HS := HS.conv (L2 := [(0, _), (1, _)]) (.here .here) ⟨rfl, rfl, trivial⟩
      replace HE := HE.cut (L' := [(0, .pointer (some ⟨bp, 0, none⟩)), (1, .slice (some ⟨eb7, eo7, none⟩) l.length c), (2, .pointer (some ⟨bd, 0, none⟩)), (5, .bool false), (6, .int .i64 ((wayS x7).1)), (7, .bool ((wayS x7).2)), (8, .pointer (some ⟨B8, 0, none⟩)), (11, .slice (some ⟨eb7, eo7, none⟩) l.length c), (12, .int .i64 (l.length : Int)), (13, .bool (decide ((l.length : Int) = 0))), (14, .tuple #[.int .i64 ((wayS x7).1), .bool ((wayS x7).2)]), (15, .slice (some ⟨eb7, eo7, none⟩) l.length c), (16, .pointer (some ⟨eb7, eo7 + (0 : Int).toNat * 1, none⟩)), (17, str x7), (18, .tuple #[.int .i64 ((wayS x7).1), .bool ((wayS x7).2)]), (19, .int .i64 ((wayS x7).1)), (20, .bool ((wayS x7).2)), (21, .int .i64 ((wayS x7).1)), (22, .agg #[.int .i64 ((wayS x7).1), .int .i64 0]), (29, .bool ((decide (((wayS x7).1) = 2)) && (decide ((l.length : Int) = 2))))]) ⟨rfl, rfl, rfl, rfl, rfl, rfl, rfl, rfl, rfl, rfl, rfl, rfl, rfl, rfl, rfl, rfl, rfl, rfl, rfl, rfl, trivial⟩
      refine drawnF (fun f G' w => Heap.le G G' ∧ St w0 G [bp] G' w [[(B8, Cells 23 [(0, .int .i64 ((wayS x7).1)), (1, .int .i64 0)])], [(bp, Cells 26 [(0, bif f 6 then .int .i64 ((wayS x7).1) else .int .i64 P.r0.way), (1, bif f 6 then .int .i64 0 else .int .i64 P.r0.size), (2, .int .i64 P.r1.way), (3, .int .i64 P.r1.size), (4, .int .i64 P.r2.way), (5, .int .i64 P.r2.size), (6, .int .i64 P.r3.way), (7, .int .i64 P.r3.size), (8, .int .i64 P.r4.way), (9, .int .i64 P.r4.size), (10, .int .i64 P.time), (11, .int .i64 P.note), (12, .bool P.loose), (13, .bool P.force)])]]) [fun v _ => v = .pointer (some ⟨bp, 0, none⟩), fun v _ => v = .int .i64 0, fun v _ => v = .agg #[.int .i64 ((wayS x7).1), .int .i64 0], fun v _ => v = .pointer (some ⟨bp, 0, none⟩), fun v _ => v = .pointer (some ⟨bp, 0, none⟩), fun v _ => v = .pointer (some ⟨bp, 0, none⟩), fun _ _ => True] [] T.mix rfl HE ⟨Heap.le.refl _, HS.drew⟩ rfl (by simp) (AllM.get ⟨fun _ _ _ _ h => h, fun _ _ _ _ h => h, fun _ _ _ _ h => h, fun _ _ _ _ h => h, fun _ _ _ _ h => h, fun _ _ _ _ h => h, fun _ _ _ _ h => h, trivial⟩) ⟨?_, ?_, ?_, ?_, ?_, ?_, ?_, trivial⟩ ?_
      · intro a w G1 f hcl hfi hon hW HE hp hO; obtain ⟨hl, HS⟩ := hW
        refine o_move HE rfl rfl ?_; clear HE; intro a HE
        exact ⟨_, _, Heap.le.refl _, ⟨hl, HS⟩, fun d hd => (by cases hd; exact HE.get _ _ rfl), HE.defers, rfl⟩
      · intro a w G1 f hcl hfi hon hW HE hp hO; obtain ⟨hl, HS⟩ := hW
        refine o_ldI HE rfl HS rfl T.s3 (hCd.le hl) (j := 0) rfl rfl ?_; clear HE; intro a HE
        exact ⟨_, _, Heap.le.refl _, ⟨hl, HS⟩, fun d hd => (by cases hd; exact HE.get _ _ rfl), HE.defers, rfl⟩
      · intro a w G1 f hcl hfi hon hW HE hp hO; obtain ⟨hl, HS⟩ := hW
        refine o_ldA HE rfl HS rfl T.a23 (.here .here) rfl ?_; clear HE; intro a HE
        exact ⟨_, _, Heap.le.refl _, ⟨hl, HS⟩, fun d hd => (by cases hd; exact HE.get _ _ rfl), HE.defers, rfl⟩
      · intro a w G1 f hcl hfi hon hW HE hp hO; obtain ⟨hl, HS⟩ := hW
        obtain ⟨_, e0, rfl⟩ := hp 0 46 _ (hon 0 rfl) rfl rfl; replace HE := HE.add e0
        refine o_nil HE rfl rfl ?_; clear HE; intro a HE
        exact ⟨_, _, Heap.le.refl _, ⟨hl, HS⟩, fun d hd => (by cases hd; exact HE.get _ _ rfl), HE.defers, rfl⟩
      · intro a w G1 f hcl hfi hon hW HE hp hO; obtain ⟨hl, HS⟩ := hW
        obtain ⟨_, e3, rfl⟩ := hp 3 49 _ (hon 3 rfl) rfl rfl; replace HE := HE.add e3
        refine o_fld HE rfl rfl T.f26_0 ?_; clear HE; intro a HE
        exact ⟨_, _, Heap.le.refl _, ⟨hl, HS⟩, fun d hd => (by cases hd; exact HE.get _ _ rfl), HE.defers, rfl⟩
      · intro a w G1 f hcl hfi hon hW HE hp hO; obtain ⟨hl, HS⟩ := hW
        obtain ⟨_, e4, rfl⟩ := hp 4 50 _ (hon 4 rfl) rfl rfl; replace HE := HE.add e4
        obtain ⟨_, e1, rfl⟩ := hp 1 47 _ (hon 1 rfl) rfl rfl; replace HE := HE.add e1
        refine o_ixA HE rfl rfl rfl T.r24 (by decide) ?_; clear HE; intro a HE
        exact ⟨_, _, Heap.le.refl _, ⟨hl, HS⟩, fun d hd => (by cases hd; exact HE.get _ _ rfl), HE.defers, rfl⟩
      · intro a w G1 f hcl hfi hon hW HE hp hO; obtain ⟨hl, HS⟩ := hW
        obtain ⟨_, e5, rfl⟩ := hp 5 51 _ (hon 5 rfl) rfl rfl; replace HE := HE.add e5
        obtain ⟨_, e2, rfl⟩ := hp 2 48 _ (hon 2 rfl) rfl rfl; replace HE := HE.add e2
        refine o_stA HE HS rfl rfl rfl T.a23 (.there (.here .here)) rfl ?_; clear HS; intro w HS
        replace HS := HS.conv (L2 := [(0, _), (1, _), (2, _), (3, _), (4, _), (5, _), (6, _), (7, _), (8, _), (9, _), (10, _), (11, _), (12, _), (13, _)]) (.there (.here .here)) ⟨rfl, rfl, rfl, rfl, rfl, rfl, rfl, rfl, rfl, rfl, rfl, rfl, rfl, rfl, trivial⟩
        exact ⟨.bool true, _, Heap.le.refl _, ⟨hl, HS⟩, fun d hd => (by cases hd), HE.defers, trivial⟩
      clear HE HS; intro a w G39 f hle40 hall HW HE hp; obtain ⟨_, HS⟩ := HW
      have hfw6 := hall 6 (by decide)
      simp only [hfw6, cond_true] at HS
      replace hR := hR.le hle40
      replace hCd := hCd.le hle40
      replace hgw := hgw.le hle40
      clear hp hall
      refine hK37 _ _ ?_; clear hK37
      refine wp_seq_k (fun K hK => ?_); refine wp_region_lit ?_
      refine o_move HE rfl rfl ?_; clear HE; intro a HE
      refine o_move HE rfl rfl ?_; clear HE; intro a HE
      refine cutL 4 (fun a' w' => w = w' ∧ Env a' 63 [] [(57, .bool (((wayS x7).2) && (decide ((l.length : Int) = 1)))), (0, .pointer (some ⟨bp, 0, none⟩)), (1, .slice (some ⟨eb7, eo7, none⟩) l.length c), (2, .pointer (some ⟨bd, 0, none⟩)), (5, .bool false), (6, .int .i64 ((wayS x7).1)), (7, .bool ((wayS x7).2)), (8, .pointer (some ⟨B8, 0, none⟩)), (11, .slice (some ⟨eb7, eo7, none⟩) l.length c), (12, .int .i64 (l.length : Int)), (13, .bool (decide ((l.length : Int) = 0))), (14, .tuple #[.int .i64 ((wayS x7).1), .bool ((wayS x7).2)]), (15, .slice (some ⟨eb7, eo7, none⟩) l.length c), (16, .pointer (some ⟨eb7, eo7 + (0 : Int).toNat * 1, none⟩)), (17, str x7), (18, .tuple #[.int .i64 ((wayS x7).1), .bool ((wayS x7).2)]), (19, .int .i64 ((wayS x7).1)), (20, .bool ((wayS x7).2)), (21, .int .i64 ((wayS x7).1)), (22, .agg #[.int .i64 ((wayS x7).1), .int .i64 0]), (29, .bool ((decide (((wayS x7).1) = 2)) && (decide ((l.length : Int) = 2))))]) ?_ ?_
      · refine (Bool.eq_false_or_eq_true ((wayS x7).2)).elim (fun hb41 => ?_) (fun hb41 => ?_)
        · skip
          have hk42 := hb41; try simp only [Bool.not_eq_true', Bool.not_eq_false', Bool.and_eq_true, Bool.or_eq_true, Bool.or_eq_false_iff, decide_eq_true_eq, decide_eq_false_iff_not, beq_iff_eq, beq_eq_false_iff_ne, ne_eq] at hk42
          refine op_on HE rfl rfl hb41 ?_
          refine o_move HE rfl rfl ?_; clear HE; intro a HE
          refine op_on HE rfl rfl hb41 ?_
          refine o_lenL HE rfl rfl Tryd.underlying29 ?_; clear HE; intro a HE
          refine op_on HE rfl rfl hb41 ?_
          refine o_eqI HE rfl rfl rfl ?_; clear HE; intro a HE
          refine o_pick_t HE rfl rfl hb41 rfl ?_; clear HE; intro a HE
          exact ⟨rfl, HE.cut ⟨by rw [hb41]; rfl, rfl, rfl, rfl, rfl, rfl, rfl, rfl, rfl, rfl, rfl, rfl, rfl, rfl, rfl, rfl, rfl, rfl, rfl, rfl, rfl, trivial⟩⟩
        · skip
          have hk43 := hb41; try simp only [Bool.not_eq_true', Bool.not_eq_false', Bool.and_eq_true, Bool.or_eq_true, Bool.or_eq_false_iff, decide_eq_true_eq, decide_eq_false_iff_not, beq_iff_eq, beq_eq_false_iff_ne, ne_eq] at hk43
          refine g_off HE rfl rfl rfl hb41 ?_; clear HE; intro a HE
          refine g_off HE rfl rfl rfl hb41 ?_; clear HE; intro a HE
          refine g_off HE rfl rfl rfl hb41 ?_; clear HE; intro a HE
          refine o_pick_f HE rfl rfl hb41 rfl ?_; clear HE; intro a HE
          exact ⟨rfl, HE.cut ⟨by rw [hb41]; rfl, rfl, rfl, rfl, rfl, rfl, rfl, rfl, rfl, rfl, rfl, rfl, rfl, rfl, rfl, rfl, rfl, rfl, rfl, rfl, rfl, trivial⟩⟩
      clear HE; rintro a _ ⟨rfl, HE⟩
      refine o_move HE rfl rfl ?_; clear HE; intro a HE
      obtain ⟨M0, hM0, HS⟩ : ∃ M0, M0 = _ ∧ St w0 G [bp] G39 _ M0 := ⟨_, rfl, HS⟩
      refine cutL 4 (fun a' w' => St w0 G [bp] G39 w' M0 ∧ Env a' 63 [] [(62, .bool ((((wayS x7).2) && (decide ((l.length : Int) = 1))) && (ruledB 0 ⟨(wayS x7).1, 0⟩))), (0, .pointer (some ⟨bp, 0, none⟩)), (1, .slice (some ⟨eb7, eo7, none⟩) l.length c), (2, .pointer (some ⟨bd, 0, none⟩)), (5, .bool false), (6, .int .i64 ((wayS x7).1)), (7, .bool ((wayS x7).2)), (8, .pointer (some ⟨B8, 0, none⟩)), (11, .slice (some ⟨eb7, eo7, none⟩) l.length c), (12, .int .i64 (l.length : Int)), (13, .bool (decide ((l.length : Int) = 0))), (14, .tuple #[.int .i64 ((wayS x7).1), .bool ((wayS x7).2)]), (15, .slice (some ⟨eb7, eo7, none⟩) l.length c), (16, .pointer (some ⟨eb7, eo7 + (0 : Int).toNat * 1, none⟩)), (17, str x7), (18, .tuple #[.int .i64 ((wayS x7).1), .bool ((wayS x7).2)]), (19, .int .i64 ((wayS x7).1)), (20, .bool ((wayS x7).2)), (21, .int .i64 ((wayS x7).1)), (22, .agg #[.int .i64 ((wayS x7).1), .int .i64 0]), (29, .bool ((decide (((wayS x7).1) = 2)) && (decide ((l.length : Int) = 2))))]) ?_ ?_
      · refine (Bool.eq_false_or_eq_true (((wayS x7).2) && (decide ((l.length : Int) = 1)))).elim (fun hb44 => ?_) (fun hb44 => ?_)
        · subst hM0
          have hk45 := hb44; try simp only [Bool.not_eq_true', Bool.not_eq_false', Bool.and_eq_true, Bool.or_eq_true, Bool.or_eq_false_iff, decide_eq_true_eq, decide_eq_false_iff_not, beq_iff_eq, beq_eq_false_iff_ne, ne_eq] at hk45
          refine op_on HE rfl rfl hb44 ?_
          refine o_ldI HE rfl HS rfl T.s3 hCd (j := 0) rfl rfl ?_; clear HE; intro a HE
          refine op_on HE rfl rfl hb44 ?_
          refine o_ldA HE rfl HS rfl T.a23 (.here .here) rfl ?_; clear HE; intro a HE
          refine op_on HE rfl rfl hb44 ?_
          refine o_callP HE rfl HS rfl rfl T.g41 (c_ruled 0 (⟨(wayS x7).1, 0⟩ : Rul) _ _ HS.sub) ?_
          clear HE HS; rintro _ w a HS rfl HE
          refine o_pick_t HE rfl rfl hb44 rfl ?_; clear HE; intro a HE
          exact ⟨HS, HE.cut ⟨by rw [hb44]; rfl, rfl, rfl, rfl, rfl, rfl, rfl, rfl, rfl, rfl, rfl, rfl, rfl, rfl, rfl, rfl, rfl, rfl, rfl, rfl, rfl, trivial⟩⟩
        · subst hM0
          have hk46 := hb44; try simp only [Bool.not_eq_true', Bool.not_eq_false', Bool.and_eq_true, Bool.or_eq_true, Bool.or_eq_false_iff, decide_eq_true_eq, decide_eq_false_iff_not, beq_iff_eq, beq_eq_false_iff_ne, ne_eq] at hk46
          refine g_off HE rfl rfl rfl hb44 ?_; clear HE; intro a HE
          refine g_off HE rfl rfl rfl hb44 ?_; clear HE; intro a HE
          refine g_off HE rfl rfl rfl hb44 ?_; clear HE; intro a HE
          refine o_pick_f HE rfl rfl hb44 rfl ?_; clear HE; intro a HE
          exact ⟨HS, HE.cut ⟨by rw [hb44]; rfl, rfl, rfl, rfl, rfl, rfl, rfl, rfl, rfl, rfl, rfl, rfl, rfl, rfl, rfl, rfl, rfl, rfl, rfl, rfl, rfl, trivial⟩⟩
      clear HE HS; rintro a w ⟨HS, HE⟩; subst hM0
      refine o_assign HE rfl rfl ?_; clear HE; intro a HE
      refine hK _ _ ?_; clear hK K
      refine wp_ret ?_
      show Q .ret _ _
      refine ret hQ HE rfl (HE.res rfl .nil) ?_
      replace HS := HS.drop (M' := [_]) (sub_drop (sub_keep sub_nil))
      have e0 : w0S l = wayS x7 := by unfold w0S; rw [get0 ex7]
      have he : ruleS 0 P l = ((⟨⟨(wayS x7).1, 0⟩, ⟨P.r1.way, P.r1.size⟩, ⟨P.r2.way, P.r2.size⟩, ⟨P.r3.way, P.r3.size⟩, ⟨P.r4.way, P.r4.size⟩, P.time, P.note, P.loose, P.force⟩ : Pol), (((wayS x7).2) && (decide ((l.length : Int) = 1))) && (ruledB 0 ⟨(wayS x7).1, 0⟩)) := by
        unfold ruleS
        rw [if_neg (by omega), if_neg (by rw [e0]; omega), e0]
        rw [show decide ((l.length : Int) = 1) = decide (l.length = 1) from decide_eq_decide.2 (by omega)]
        rfl
      exact ⟨_, [(bp, Cells 26 [(0, .int .i64 ((wayS x7).1)), (1, .int .i64 0), (2, .int .i64 P.r1.way), (3, .int .i64 P.r1.size), (4, .int .i64 P.r2.way), (5, .int .i64 P.r2.size), (6, .int .i64 P.r3.way), (7, .int .i64 P.r3.size), (8, .int .i64 P.r4.way), (9, .int .i64 P.r4.size), (10, .int .i64 P.time), (11, .int .i64 P.note), (12, .bool P.loose), (13, .bool P.force)])], HS.stop (by simp), by rw [he] <;> rfl, by rw [he] <;> rfl⟩

/-! `incognito/policy.rule$1` -/
set_option maxRecDepth 100000 in
set_option maxHeartbeats 4000000 in
theorem c_rule1 (P : Pol) (l : List Bs) (A : Option Addr) (c : Nat) (bp : Nat) (bd : Nat) {W0 : World} {H0 : Heap} {L0 : List Nat} {M0 : List Chunk} (w0 : World) (G : Heap) (hS0 : St W0 H0 L0 G w0 ([(bp, Cells 26 [(0, .int .i64 P.r0.way), (1, .int .i64 P.r0.size), (2, .int .i64 P.r1.way), (3, .int .i64 P.r1.size), (4, .int .i64 P.r2.way), (5, .int .i64 P.r2.size), (6, .int .i64 P.r3.way), (7, .int .i64 P.r3.size), (8, .int .i64 P.r4.way), (9, .int .i64 P.r4.size), (10, .int .i64 P.time), (11, .int .i64 P.note), (12, .bool P.loose), (13, .bool P.force)])] :: M0)) (hR : Rd Knd.s G A l) (hc : l.length ≤ c) (hl : l.length ≤ 4294967281) (hls : ∀ x ∈ l, x.length ≤ 4294967280) (hCd : CellsAt G bd 0 [.int .i64 1]) (hgw : CellsAt G 1 0 [str [107, 101, 101, 112], str [111, 114, 100, 105, 110, 97, 108], str [107, 101, 121, 101, 100], str [114, 97, 110, 107], str [100, 114, 111, 112]]):
    Calls Tryd.prog 103 #[.pointer (some ⟨bp, 0, none⟩), .slice A l.length c, .pointer (some ⟨bd, 0, none⟩)] w0 (X.Ends w0 G [bp] (fun v G' C' => v = .bool (ruleS 1 P l).2 ∧ C' = [(bp, Cells 26 (pcE (ruleS 1 P l).1))]) (fun _ _ _ => False)) := by
  refine enter Tryd.func103 rfl Tryd.ntmps103 rfl ?_
  intro Q hQ a HE
  have HS := St.start (C := [(bp, Cells 26 [(0, .int .i64 P.r0.way), (1, .int .i64 P.r0.size), (2, .int .i64 P.r1.way), (3, .int .i64 P.r1.size), (4, .int .i64 P.r2.way), (5, .int .i64 P.r2.size), (6, .int .i64 P.r3.way), (7, .int .i64 P.r3.size), (8, .int .i64 P.r4.way), (9, .int .i64 P.r4.size), (10, .int .i64 P.time), (11, .int .i64 P.note), (12, .bool P.loose), (13, .bool P.force)])]) hS0.sub (fun p hp => hS0.mem p (by simp only [List.flatten_cons, List.mem_append]; exact .inl hp)) (fun p hp => hS0.sep p (by simp only [List.flatten_cons, List.mem_append]; exact .inl hp)) (by simp [X.keys])
  change St w0 G [bp] G w0 _ at HS
  refine wp_seq_k (fun K hK => ?_); refine wp_region_lit ?_
  refine o_assign HE rfl rfl ?_; clear HE; intro a HE
  refine hK _ _ ?_; clear hK K
  refine wp_seq_k (fun K3 hK2 => ?_)
  refine wp_seq_k (fun K hK => ?_); refine wp_region_lit ?_
  refine o_move HE rfl rfl ?_; clear HE; intro a HE
  refine o_lenL HE rfl rfl Tryd.underlying29 ?_; clear HE; intro a HE
  refine o_eqI HE rfl rfl rfl ?_; clear HE; intro a HE
  refine hK _ _ ?_; clear hK K
  refine cond HE rfl (fun h5 => ?_) (fun h5 => ?_)
  · have h5r := h5; try simp only [Bool.not_eq_true', Bool.not_eq_false', Bool.and_eq_true, Bool.or_eq_true, Bool.or_eq_false_iff, Bool.and_eq_false_iff, decide_eq_true_eq, decide_eq_false_iff_not, beq_iff_eq, beq_eq_false_iff_ne, ne_eq] at h5
    refine wp_seq_k (fun K hK => ?_); refine wp_region_lit ?_
    refine o_assign HE rfl rfl ?_; clear HE; intro a HE
    refine hK _ _ ?_; clear hK K
    refine wp_ret ?_
    show Q .ret _ _
    refine ret hQ HE rfl (HE.res rfl .nil) ?_
    have he : ruleS 1 P l = ((⟨⟨P.r0.way, P.r0.size⟩, ⟨P.r1.way, P.r1.size⟩, ⟨P.r2.way, P.r2.size⟩, ⟨P.r3.way, P.r3.size⟩, ⟨P.r4.way, P.r4.size⟩, P.time, P.note, P.loose, P.force⟩ : Pol), false) := by
      unfold ruleS
      rw [if_pos (by omega)]
    exact ⟨_, [(bp, Cells 26 [(0, .int .i64 P.r0.way), (1, .int .i64 P.r0.size), (2, .int .i64 P.r1.way), (3, .int .i64 P.r1.size), (4, .int .i64 P.r2.way), (5, .int .i64 P.r2.size), (6, .int .i64 P.r3.way), (7, .int .i64 P.r3.size), (8, .int .i64 P.r4.way), (9, .int .i64 P.r4.size), (10, .int .i64 P.time), (11, .int .i64 P.note), (12, .bool P.loose), (13, .bool P.force)])], HS.stop (by simp), by rw [he] <;> rfl, by rw [he] <;> rfl⟩
  · have h5r := h5; try simp only [Bool.not_eq_true', Bool.not_eq_false', Bool.and_eq_true, Bool.or_eq_true, Bool.or_eq_false_iff, Bool.and_eq_false_iff, decide_eq_true_eq, decide_eq_false_iff_not, beq_iff_eq, beq_eq_false_iff_ne, ne_eq] at h5
    refine wp_skip ?_
    refine hK2 _ _ ?_; clear hK2
    refine wp_seq_k (fun K hK => ?_); refine wp_region_lit ?_
    refine o_move HE rfl rfl ?_; clear HE; intro a HE
    have hi7 : (0 : Int).toNat < l.length := by omega
    obtain ⟨eb7, eo7, hA7, el7⟩ := Rd.at hR (List.getElem?_eq_getElem hi7); cases hA7
    obtain ⟨x7, ex7⟩ : ∃ x, l[(0 : Int).toNat] = x := ⟨_, rfl⟩; rw [ex7] at el7
    have el7 := kof_open (enc := fun l => str l) el7
    refine o_ixL HE rfl rfl rfl T.l29 ⟨by omega, by omega⟩ ?_; clear HE; intro a HE
    refine o_ldI HE rfl HS rfl T.s9 el7 (j := 0) rfl rfl ?_; clear HE; intro a HE
    refine o_callP HE rfl HS rfl rfl T.g72 (c_way x7 _ _ HS.sub hgw) ?_
    clear HE HS; rintro _ w a HS rfl HE
    refine o_move HE rfl rfl ?_; clear HE; intro a HE
    refine o_extract HE rfl rfl rfl ?_; clear HE; intro a HE
    refine o_extract HE rfl rfl rfl ?_; clear HE; intro a HE
    refine o_assign HE rfl rfl ?_; clear HE; intro a HE
    refine o_assign HE rfl rfl ?_; clear HE; intro a HE
    refine hK _ _ ?_; clear hK K
    refine wp_seq_k (fun K hK => ?_); refine wp_region_lit ?_
    refine o_move HE rfl rfl ?_; clear HE; intro a HE
    refine o_build (cs := #[.int .i64 ((wayS x7).1), .int .i64 0]) HE rfl rfl (by kernel_rfl) ?_; clear HE; intro a HE
    refine o_allocL [(0, _), (1, _)] HE rfl HS T.z23 ⟨rfl, rfl, trivial⟩ ?_; clear HE HS; intro B8 w a HS HE
    refine o_stA HE HS rfl rfl rfl T.a23 (.here .here) rfl ?_; clear HS; intro w HS
    refine hK _ _ ?_; clear hK K
    refine wp_seq_k (fun K11 hK10 => ?_)
    refine wp_seq_k (fun K hK => ?_); refine wp_region_lit ?_
    refine o_move HE rfl rfl ?_; clear HE; intro a HE
    refine o_eqI HE rfl rfl rfl ?_; clear HE; intro a HE
    refine o_move HE rfl rfl ?_; clear HE; intro a HE
    refine cutL 4 (fun a' w' => w = w' ∧ Env a' 63 [] [(29, .bool ((decide (((wayS x7).1) = 2)) && (decide ((l.length : Int) = 2)))), (0, .pointer (some ⟨bp, 0, none⟩)), (1, .slice (some ⟨eb7, eo7, none⟩) l.length c), (2, .pointer (some ⟨bd, 0, none⟩)), (5, .bool false), (6, .int .i64 ((wayS x7).1)), (7, .bool ((wayS x7).2)), (8, .pointer (some ⟨B8, 0, none⟩)), (11, .slice (some ⟨eb7, eo7, none⟩) l.length c), (12, .int .i64 (l.length : Int)), (13, .bool (decide ((l.length : Int) = 0))), (14, .tuple #[.int .i64 ((wayS x7).1), .bool ((wayS x7).2)]), (15, .slice (some ⟨eb7, eo7, none⟩) l.length c), (16, .pointer (some ⟨eb7, eo7 + (0 : Int).toNat * 1, none⟩)), (17, str x7), (18, .tuple #[.int .i64 ((wayS x7).1), .bool ((wayS x7).2)]), (19, .int .i64 ((wayS x7).1)), (20, .bool ((wayS x7).2)), (21, .int .i64 ((wayS x7).1)), (22, .agg #[.int .i64 ((wayS x7).1), .int .i64 0])]) ?_ ?_
    · refine (Bool.eq_false_or_eq_true (decide (((wayS x7).1) = 2))).elim (fun hb12 => ?_) (fun hb12 => ?_)
      · skip
        have hk13 := hb12; try simp only [Bool.not_eq_true', Bool.not_eq_false', Bool.and_eq_true, Bool.or_eq_true, Bool.or_eq_false_iff, decide_eq_true_eq, decide_eq_false_iff_not, beq_iff_eq, beq_eq_false_iff_ne, ne_eq] at hk13
        refine op_on HE rfl rfl hb12 ?_
        refine o_move HE rfl rfl ?_; clear HE; intro a HE
        refine op_on HE rfl rfl hb12 ?_
        refine o_lenL HE rfl rfl Tryd.underlying29 ?_; clear HE; intro a HE
        refine op_on HE rfl rfl hb12 ?_
        refine o_eqI HE rfl rfl rfl ?_; clear HE; intro a HE
        refine o_pick_t HE rfl rfl hb12 rfl ?_; clear HE; intro a HE
        exact ⟨rfl, HE.cut ⟨by rw [hb12]; rfl, rfl, rfl, rfl, rfl, rfl, rfl, rfl, rfl, rfl, rfl, rfl, rfl, rfl, rfl, rfl, rfl, rfl, rfl, rfl, trivial⟩⟩
      · skip
        have hk14 := hb12; try simp only [Bool.not_eq_true', Bool.not_eq_false', Bool.and_eq_true, Bool.or_eq_true, Bool.or_eq_false_iff, decide_eq_true_eq, decide_eq_false_iff_not, beq_iff_eq, beq_eq_false_iff_ne, ne_eq] at hk14
        refine g_off HE rfl rfl rfl hb12 ?_; clear HE; intro a HE
        refine g_off HE rfl rfl rfl hb12 ?_; clear HE; intro a HE
        refine g_off HE rfl rfl rfl hb12 ?_; clear HE; intro a HE
        refine o_pick_f HE rfl rfl hb12 rfl ?_; clear HE; intro a HE
        exact ⟨rfl, HE.cut ⟨by rw [hb12]; rfl, rfl, rfl, rfl, rfl, rfl, rfl, rfl, rfl, rfl, rfl, rfl, rfl, rfl, rfl, rfl, rfl, rfl, rfl, rfl, trivial⟩⟩
    clear HE; rintro a _ ⟨rfl, HE⟩
    refine hK _ _ ?_; clear hK K
    refine cond HE rfl (fun h16 => ?_) (fun h16 => ?_)
    · have h16r := h16; try simp only [Bool.not_eq_true', Bool.not_eq_false', Bool.and_eq_true, Bool.or_eq_true, Bool.or_eq_false_iff, Bool.and_eq_false_iff, decide_eq_true_eq, decide_eq_false_iff_not, beq_iff_eq, beq_eq_false_iff_ne, ne_eq] at h16
      refine wp_seq_k (fun K hK => ?_); refine wp_region_lit ?_
      refine o_move HE rfl rfl ?_; clear HE; intro a HE
      have hi17 : (1 : Int).toNat < l.length := by omega
      obtain ⟨eb17, eo17, hA17, el17⟩ := Rd.at hR (List.getElem?_eq_getElem hi17); cases hA17
      obtain ⟨x17, ex17⟩ : ∃ x, l[(1 : Int).toNat] = x := ⟨_, rfl⟩; rw [ex17] at el17
      have el17 := kof_open (enc := fun l => str l) el17
      refine o_ixL HE rfl rfl rfl T.l29 ⟨by omega, by omega⟩ ?_; clear HE; intro a HE
      refine o_ldI HE rfl HS rfl T.s9 el17 (j := 0) rfl rfl ?_; clear HE; intro a HE
      have hxl17 : x17.length ≤ 4294967280 := by rw [← ex17]; exact hls _ (List.getElem_mem _)
      refine o_callP HE rfl HS rfl rfl T.g84 (c_count x17 16 _ _ HS.sub (by first | assumption | decide) (by first | omega | (simp; done) | (simp; omega))) ?_
      clear HE HS; rintro _ w a HS rfl HE
      refine o_move HE rfl rfl ?_; clear HE; intro a HE
      refine o_extract HE rfl rfl rfl ?_; clear HE; intro a HE
      refine o_extract HE rfl rfl rfl ?_; clear HE; intro a HE
      refine o_assign HE rfl rfl ?_; clear HE; intro a HE
      refine o_assign HE rfl rfl ?_; clear HE; intro a HE
      refine hK _ _ ?_; clear hK K
      refine wp_seq_k (fun K hK => ?_); refine wp_region_lit ?_
      refine o_move HE rfl rfl ?_; clear HE; intro a HE
      refine o_move HE rfl rfl ?_; clear HE; intro a HE
      refine cutL 3 (fun a' w' => w = w' ∧ Env a' 63 [] [(41, .bool (((wayS x7).2) && (decide ((erv (countS x17 16)) = 0)))), (0, .pointer (some ⟨bp, 0, none⟩)), (1, .slice (some ⟨eb7, eo7, none⟩) l.length c), (2, .pointer (some ⟨bd, 0, none⟩)), (5, .bool false), (6, .int .i64 ((wayS x7).1)), (7, .bool ((wayS x7).2)), (8, .pointer (some ⟨B8, 0, none⟩)), (9, .int .i64 (okv (countS x17 16))), (11, .slice (some ⟨eb7, eo7, none⟩) l.length c), (12, .int .i64 (l.length : Int)), (13, .bool (decide ((l.length : Int) = 0))), (14, .tuple #[.int .i64 ((wayS x7).1), .bool ((wayS x7).2)]), (15, .slice (some ⟨eb7, eo7, none⟩) l.length c), (16, .pointer (some ⟨eb7, eo7 + (0 : Int).toNat * 1, none⟩)), (17, str x7), (18, .tuple #[.int .i64 ((wayS x7).1), .bool ((wayS x7).2)]), (19, .int .i64 ((wayS x7).1)), (20, .bool ((wayS x7).2)), (21, .int .i64 ((wayS x7).1)), (22, .agg #[.int .i64 ((wayS x7).1), .int .i64 0]), (29, .bool ((decide (((wayS x7).1) = 2)) && (decide ((l.length : Int) = 2)))), (30, .tuple #[.int .i64 (okv (countS x17 16)), .int .i64 (erv (countS x17 16))]), (31, .slice (some ⟨eb7, eo7, none⟩) l.length c), (32, .pointer (some ⟨eb7, eo7 + (1 : Int).toNat * 1, none⟩)), (33, str x17), (34, .tuple #[.int .i64 (okv (countS x17 16)), .int .i64 (erv (countS x17 16))]), (35, .int .i64 (okv (countS x17 16))), (36, .int .i64 (erv (countS x17 16)))]) ?_ ?_
      · refine (Bool.eq_false_or_eq_true ((wayS x7).2)).elim (fun hb19 => ?_) (fun hb19 => ?_)
        · skip
          have hk20 := hb19; try simp only [Bool.not_eq_true', Bool.not_eq_false', Bool.and_eq_true, Bool.or_eq_true, Bool.or_eq_false_iff, decide_eq_true_eq, decide_eq_false_iff_not, beq_iff_eq, beq_eq_false_iff_ne, ne_eq] at hk20
          refine op_on HE rfl rfl hb19 ?_
          refine o_move HE rfl rfl ?_; clear HE; intro a HE
          refine op_on HE rfl rfl hb19 ?_
          refine o_eqI HE rfl rfl rfl ?_; clear HE; intro a HE
          refine o_pick_t HE rfl rfl hb19 rfl ?_; clear HE; intro a HE
          exact ⟨rfl, HE.cut ⟨by rw [hb19]; rfl, rfl, rfl, rfl, rfl, rfl, rfl, rfl, rfl, rfl, rfl, rfl, rfl, rfl, rfl, rfl, rfl, rfl, rfl, rfl, rfl, rfl, rfl, rfl, rfl, rfl, rfl, rfl, rfl, trivial⟩⟩
        · skip
          have hk21 := hb19; try simp only [Bool.not_eq_true', Bool.not_eq_false', Bool.and_eq_true, Bool.or_eq_true, Bool.or_eq_false_iff, decide_eq_true_eq, decide_eq_false_iff_not, beq_iff_eq, beq_eq_false_iff_ne, ne_eq] at hk21
          refine g_off HE rfl rfl rfl hb19 ?_; clear HE; intro a HE
          refine g_off HE rfl rfl rfl hb19 ?_; clear HE; intro a HE
          refine o_pick_f HE rfl rfl hb19 rfl ?_; clear HE; intro a HE
          exact ⟨rfl, HE.cut ⟨by rw [hb19]; rfl, rfl, rfl, rfl, rfl, rfl, rfl, rfl, rfl, rfl, rfl, rfl, rfl, rfl, rfl, rfl, rfl, rfl, rfl, rfl, rfl, rfl, rfl, rfl, rfl, rfl, rfl, rfl, rfl, trivial⟩⟩
      clear HE; rintro a _ ⟨rfl, HE⟩
      refine o_assign HE rfl rfl ?_; clear HE; intro a HE
      refine hK _ _ ?_; clear hK K
      replace HS := HS.conv (L2 := [(0, _), (1, _)]) (.here .here) ⟨rfl, rfl, trivial⟩
      have HE0 := HE
      have hR23 := Rd.take hR (1 : Int).toNat
      replace HE := HE.cut (L' := [(0, .pointer (some ⟨bp, 0, none⟩)), (2, .pointer (some ⟨bd, 0, none⟩)), (5, .bool false), (6, .int .i64 ((wayS x7).1)), (7, .bool (((wayS x7).2) && (decide ((erv (countS x17 16)) = 0)))), (8, .pointer (some ⟨B8, 0, none⟩)), (9, .int .i64 (okv (countS x17 16))), (11, .slice (some ⟨eb7, eo7, none⟩) l.length c), (12, .int .i64 (l.length : Int)), (13, .bool (decide ((l.length : Int) = 0))), (14, .tuple #[.int .i64 ((wayS x7).1), .bool ((wayS x7).2)]), (15, .slice (some ⟨eb7, eo7, none⟩) l.length c), (16, .pointer (some ⟨eb7, eo7 + (0 : Int).toNat * 1, none⟩)), (17, str x7), (18, .tuple #[.int .i64 ((wayS x7).1), .bool ((wayS x7).2)]), (19, .int .i64 ((wayS x7).1)), (20, .bool ((wayS x7).2)), (21, .int .i64 ((wayS x7).1)), (22, .agg #[.int .i64 ((wayS x7).1), .int .i64 0]), (29, .bool ((decide (((wayS x7).1) = 2)) && (decide ((l.length : Int) = 2)))), (30, .tuple #[.int .i64 (okv (countS x17 16)), .int .i64 (erv (countS x17 16))]), (31, .slice (some ⟨eb7, eo7, none⟩) l.length c), (32, .pointer (some ⟨eb7, eo7 + (1 : Int).toNat * 1, none⟩)), (33, str x17), (34, .tuple #[.int .i64 (okv (countS x17 16)), .int .i64 (erv (countS x17 16))]), (35, .int .i64 (okv (countS x17 16))), (36, .int .i64 (erv (countS x17 16))), (41, .bool (((wayS x7).2) && (decide ((erv (countS x17 16)) = 0))))]) ⟨rfl, rfl, rfl, rfl, rfl, rfl, rfl, rfl, rfl, rfl, rfl, rfl, rfl, rfl, rfl, rfl, rfl, rfl, rfl, rfl, rfl, rfl, rfl, rfl, rfl, rfl, rfl, rfl, trivial⟩
      refine drawnF (fun f G' w => Heap.le G G' ∧ St w0 G [bp] G' w [[(B8, Cells 23 [(0, .int .i64 ((wayS x7).1)), (1, bif f 4 then .int .i64 (okv (countS x17 16)) else .int .i64 0)])], [(bp, Cells 26 [(0, .int .i64 P.r0.way), (1, .int .i64 P.r0.size), (2, .int .i64 P.r1.way), (3, .int .i64 P.r1.size), (4, .int .i64 P.r2.way), (5, .int .i64 P.r2.size), (6, .int .i64 P.r3.way), (7, .int .i64 P.r3.size), (8, .int .i64 P.r4.way), (9, .int .i64 P.r4.size), (10, .int .i64 P.time), (11, .int .i64 P.note), (12, .bool P.loose), (13, .bool P.force)])]]) [fun v _ => v = .int .i64 (okv (countS x17 16)), fun v _ => v = .slice (some ⟨eb7, eo7, none⟩) l.length c, fun v _ => v = .slice (some ⟨eb7, eo7, none⟩) (((l).take (1 : Int).toNat).length) c, fun v _ => v = .pointer (some ⟨B8, 1, none⟩), fun _ _ => True, fun v _ => v = .slice (some ⟨eb7, eo7, none⟩) (((l).take (1 : Int).toNat).length) c] [(1, .slice (some ⟨eb7, eo7, none⟩) l.length c, 5)] T.mix rfl HE ⟨Heap.le.refl _, HS.drew⟩ rfl (fun t v k h => by simp only [List.mem_cons, Prod.mk.injEq, List.not_mem_nil, or_false] at h; obtain ⟨rfl, rfl, rfl⟩ := h; exact ⟨HE0.get _ _ rfl, rfl⟩) (AllM.get ⟨fun _ _ _ _ h => h, fun _ _ _ _ h => h, fun _ _ _ _ h => h, fun _ _ _ _ h => h, fun _ _ _ _ h => h, fun _ _ _ _ h => h, trivial⟩) ⟨?_, ?_, ?_, ?_, ?_, ?_, trivial⟩ ?_
      · intro a w G1 f hcl hfi hon hW HE hp hO; obtain ⟨hl, HS⟩ := hW
        refine o_move HE rfl rfl ?_; clear HE; intro a HE
        exact ⟨_, _, Heap.le.refl _, ⟨hl, HS⟩, fun d hd => (by cases hd; exact HE.get _ _ rfl), HE.defers, rfl⟩
      · intro a w G1 f hcl hfi hon hW HE hp hO; obtain ⟨hl, HS⟩ := hW
        have hfk : f 5 = false := by
          cases hq : f 5 with
          | false => rfl
          | true =>
            have hq := hcl 5 _ rfl hq 2 rfl
            have hq := hcl 2 _ rfl hq 1 rfl
            rw [hfi] at hq; cases hq
        replace HE := HE.add (hO 1 (.slice (some ⟨eb7, eo7, none⟩) l.length c) 5 (by simp) hfk)
        refine o_move HE rfl rfl ?_; clear HE; intro a HE
        exact ⟨_, _, Heap.le.refl _, ⟨hl, HS⟩, fun d hd => (by cases hd; exact HE.get _ _ rfl), HE.defers, rfl⟩
      · intro a w G1 f hcl hfi hon hW HE hp hO; obtain ⟨hl, HS⟩ := hW
        obtain ⟨_, e1, rfl⟩ := hp 1 43 _ (hon 1 rfl) rfl rfl; replace HE := HE.add e1
        refine o_sliceRHi (K := Knd.s) (k := (1 : Int)) HE rfl rfl rfl T.l29 hR rfl (by omega) (by omega) ?_; clear HE; intro a _ _ HE
        exact ⟨_, _, Heap.le.refl _, ⟨hl, HS⟩, fun d hd => (by cases hd; exact HE.get _ _ rfl), HE.defers, rfl⟩
      · intro a w G1 f hcl hfi hon hW HE hp hO; obtain ⟨hl, HS⟩ := hW
        refine o_fld HE rfl rfl T.f23_1 ?_; clear HE; intro a HE
        exact ⟨_, _, Heap.le.refl _, ⟨hl, HS⟩, fun d hd => (by cases hd; exact HE.get _ _ rfl), HE.defers, rfl⟩
      · intro a w G1 f hcl hfi hon hW HE hp hO; obtain ⟨hl, HS⟩ := hW
        obtain ⟨_, e3, rfl⟩ := hp 3 45 _ (hon 3 rfl) rfl rfl; replace HE := HE.add e3
        obtain ⟨_, e0, rfl⟩ := hp 0 42 _ (hon 0 rfl) rfl rfl; replace HE := HE.add e0
        refine o_st HE HS rfl rfl rfl T.s3 (.here .here) rfl ?_; clear HS; intro w HS
        replace HS := HS.conv (L2 := [(0, _), (1, _)]) (.here .here) ⟨rfl, rfl, trivial⟩
        exact ⟨.bool true, _, Heap.le.refl _, ⟨hl, HS⟩, fun d hd => (by cases hd), HE.defers, trivial⟩
      · intro a w G1 f hcl hfi hon hW HE hp hO; obtain ⟨hl, HS⟩ := hW
        obtain ⟨_, e2, rfl⟩ := hp 2 44 _ (hon 2 rfl) rfl rfl; replace HE := HE.add e2
        refine o_assign HE rfl rfl ?_; clear HE; intro a HE
        exact ⟨_, _, Heap.le.refl _, ⟨hl, HS⟩, fun d hd => (by cases hd; exact HE.get _ _ rfl), HE.defers, rfl⟩
      clear HE HS; intro a w G24 f hle25 hall HW HE hp; obtain ⟨_, HS⟩ := HW
      have hfw4 := hall 4 (by decide)
      simp only [hfw4, cond_true] at HS
      replace hR := hR.le hle25
      replace hCd := hCd.le hle25
      replace hgw := hgw.le hle25
      replace hR23 := hR23.le hle25
      obtain ⟨_, e5, rfl⟩ := hp 5 1 _ rfl rfl; replace HE := HE.add e5
      clear hp hall
      refine hK10 _ _ ?_; clear hK10
      refine wp_seq_k (fun K27 hK26 => ?_)
      replace HE := HE.cut (L' := [(0, .pointer (some ⟨bp, 0, none⟩)), (1, .slice (some ⟨eb7, eo7, none⟩) (((l).take (1 : Int).toNat).length) c), (2, .pointer (some ⟨bd, 0, none⟩)), (5, .bool false), (6, .int .i64 ((wayS x7).1)), (7, .bool (((wayS x7).2) && (decide ((erv (countS x17 16)) = 0)))), (8, .pointer (some ⟨B8, 0, none⟩)), (9, .int .i64 (okv (countS x17 16))), (11, .slice (some ⟨eb7, eo7, none⟩) l.length c), (12, .int .i64 (l.length : Int)), (13, .bool (decide ((l.length : Int) = 0))), (14, .tuple #[.int .i64 ((wayS x7).1), .bool ((wayS x7).2)]), (15, .slice (some ⟨eb7, eo7, none⟩) l.length c), (16, .pointer (some ⟨eb7, eo7 + (0 : Int).toNat * 1, none⟩)), (17, str x7), (18, .tuple #[.int .i64 ((wayS x7).1), .bool ((wayS x7).2)]), (19, .int .i64 ((wayS x7).1)), (20, .bool ((wayS x7).2)), (21, .int .i64 ((wayS x7).1)), (22, .agg #[.int .i64 ((wayS x7).1), .int .i64 0]), (29, .bool ((decide (((wayS x7).1) = 2)) && (decide ((l.length : Int) = 2)))), (30, .tuple #[.int .i64 (okv (countS x17 16)), .int .i64 (erv (countS x17 16))]), (31, .slice (some ⟨eb7, eo7, none⟩) l.length c), (32, .pointer (some ⟨eb7, eo7 + (1 : Int).toNat * 1, none⟩)), (33, str x17), (34, .tuple #[.int .i64 (okv (countS x17 16)), .int .i64 (erv (countS x17 16))]), (35, .int .i64 (okv (countS x17 16))), (36, .int .i64 (erv (countS x17 16))), (41, .bool (((wayS x7).2) && (decide ((erv (countS x17 16)) = 0))))]) ⟨rfl, rfl, rfl, rfl, rfl, rfl, rfl, rfl, rfl, rfl, rfl, rfl, rfl, rfl, rfl, rfl, rfl, rfl, rfl, rfl, rfl, rfl, rfl, rfl, rfl, rfl, rfl, rfl, rfl, trivial⟩
      refine drawnF (fun f G' w => Heap.le G24 G' ∧ St w0 G [bp] G' w [[(B8, Cells 23 [(0, .int .i64 ((wayS x7).1)), (1, .int .i64 (okv (countS x17 16)))])], [(bp, Cells 26 [(0, .int .i64 P.r0.way), (1, .int .i64 P.r0.size), (2, bif f 6 then .int .i64 ((wayS x7).1) else .int .i64 P.r1.way), (3, bif f 6 then .int .i64 (okv (countS x17 16)) else .int .i64 P.r1.size), (4, .int .i64 P.r2.way), (5, .int .i64 P.r2.size), (6, .int .i64 P.r3.way), (7, .int .i64 P.r3.size), (8, .int .i64 P.r4.way), (9, .int .i64 P.r4.size), (10, .int .i64 P.time), (11, .int .i64 P.note), (12, .bool P.loose), (13, .bool P.force)])]]) [fun v _ => v = .pointer (some ⟨bp, 0, none⟩), fun v _ => v = .int .i64 1, fun v _ => v = .agg #[.int .i64 ((wayS x7).1), .int .i64 (okv (countS x17 16))], fun v _ => v = .pointer (some ⟨bp, 0, none⟩), fun v _ => v = .pointer (some ⟨bp, 0, none⟩), fun v _ => v = .pointer (some ⟨bp, 2, none⟩), fun _ _ => True] [] T.mix rfl HE ⟨Heap.le.refl _, HS.drew⟩ rfl (by simp) (AllM.get ⟨fun _ _ _ _ h => h, fun _ _ _ _ h => h, fun _ _ _ _ h => h, fun _ _ _ _ h => h, fun _ _ _ _ h => h, fun _ _ _ _ h => h, fun _ _ _ _ h => h, trivial⟩) ⟨?_, ?_, ?_, ?_, ?_, ?_, ?_, trivial⟩ ?_
      · intro a w G1 f hcl hfi hon hW HE hp hO; obtain ⟨hl, HS⟩ := hW
        refine o_move HE rfl rfl ?_; clear HE; intro a HE
        exact ⟨_, _, Heap.le.refl _, ⟨hl, HS⟩, fun d hd => (by cases hd; exact HE.get _ _ rfl), HE.defers, rfl⟩
      · intro a w G1 f hcl hfi hon hW HE hp hO; obtain ⟨hl, HS⟩ := hW
        refine o_ldI HE rfl HS rfl T.s3 (hCd.le hl) (j := 0) rfl rfl ?_; clear HE; intro a HE
        exact ⟨_, _, Heap.le.refl _, ⟨hl, HS⟩, fun d hd => (by cases hd; exact HE.get _ _ rfl), HE.defers, rfl⟩
      · intro a w G1 f hcl hfi hon hW HE hp hO; obtain ⟨hl, HS⟩ := hW
        refine o_ldA HE rfl HS rfl T.a23 (.here .here) rfl ?_; clear HE; intro a HE
        exact ⟨_, _, Heap.le.refl _, ⟨hl, HS⟩, fun d hd => (by cases hd; exact HE.get _ _ rfl), HE.defers, rfl⟩
      · intro a w G1 f hcl hfi hon hW HE hp hO; obtain ⟨hl, HS⟩ := hW
        obtain ⟨_, e0, rfl⟩ := hp 0 46 _ (hon 0 rfl) rfl rfl; replace HE := HE.add e0
        refine o_nil HE rfl rfl ?_; clear HE; intro a HE
        exact ⟨_, _, Heap.le.refl _, ⟨hl, HS⟩, fun d hd => (by cases hd; exact HE.get _ _ rfl), HE.defers, rfl⟩
      · intro a w G1 f hcl hfi hon hW HE hp hO; obtain ⟨hl, HS⟩ := hW
        obtain ⟨_, e3, rfl⟩ := hp 3 49 _ (hon 3 rfl) rfl rfl; replace HE := HE.add e3
        refine o_fld HE rfl rfl T.f26_0 ?_; clear HE; intro a HE
        exact ⟨_, _, Heap.le.refl _, ⟨hl, HS⟩, fun d hd => (by cases hd; exact HE.get _ _ rfl), HE.defers, rfl⟩
      · intro a w G1 f hcl hfi hon hW HE hp hO; obtain ⟨hl, HS⟩ := hW
        obtain ⟨_, e4, rfl⟩ := hp 4 50 _ (hon 4 rfl) rfl rfl; replace HE := HE.add e4
        obtain ⟨_, e1, rfl⟩ := hp 1 47 _ (hon 1 rfl) rfl rfl; replace HE := HE.add e1
        refine o_ixA HE rfl rfl rfl T.r24 (by decide) ?_; clear HE; intro a HE
        exact ⟨_, _, Heap.le.refl _, ⟨hl, HS⟩, fun d hd => (by cases hd; exact HE.get _ _ rfl), HE.defers, rfl⟩
      · intro a w G1 f hcl hfi hon hW HE hp hO; obtain ⟨hl, HS⟩ := hW
        obtain ⟨_, e5, rfl⟩ := hp 5 51 _ (hon 5 rfl) rfl rfl; replace HE := HE.add e5
        obtain ⟨_, e2, rfl⟩ := hp 2 48 _ (hon 2 rfl) rfl rfl; replace HE := HE.add e2
        refine o_stA HE HS rfl rfl rfl T.a23 (.there (.here .here)) rfl ?_; clear HS; intro w HS
        replace HS := HS.conv (L2 := [(0, _), (1, _), (2, _), (3, _), (4, _), (5, _), (6, _), (7, _), (8, _), (9, _), (10, _), (11, _), (12, _), (13, _)]) (.there (.here .here)) ⟨rfl, rfl, rfl, rfl, rfl, rfl, rfl, rfl, rfl, rfl, rfl, rfl, rfl, rfl, trivial⟩
        exact ⟨.bool true, _, Heap.le.refl _, ⟨hl, HS⟩, fun d hd => (by cases hd), HE.defers, trivial⟩
      clear HE HS; intro a w G28 f hle29 hall HW HE hp; obtain ⟨_, HS⟩ := HW
      have hfw6 := hall 6 (by decide)
      simp only [hfw6, cond_true] at HS
      replace hR := hR.le hle29
      replace hCd := hCd.le hle29
      replace hgw := hgw.le hle29
      replace hR23 := hR23.le hle29
      clear hp hall
      refine hK26 _ _ ?_; clear hK26
      refine wp_seq_k (fun K hK => ?_); refine wp_region_lit ?_
      refine o_move HE rfl rfl ?_; clear HE; intro a HE
      refine o_move HE rfl rfl ?_; clear HE; intro a HE
      refine cutL 4 (fun a' w' => w = w' ∧ Env a' 63 [] [(57, .bool ((((wayS x7).2) && (decide ((erv (countS x17 16)) = 0))) && (decide ((((l).take (1 : Int).toNat).length : Int) = 1)))), (0, .pointer (some ⟨bp, 0, none⟩)), (1, .slice (some ⟨eb7, eo7, none⟩) (((l).take (1 : Int).toNat).length) c), (2, .pointer (some ⟨bd, 0, none⟩)), (5, .bool false), (6, .int .i64 ((wayS x7).1)), (7, .bool (((wayS x7).2) && (decide ((erv (countS x17 16)) = 0)))), (8, .pointer (some ⟨B8, 0, none⟩)), (9, .int .i64 (okv (countS x17 16))), (11, .slice (some ⟨eb7, eo7, none⟩) l.length c), (12, .int .i64 (l.length : Int)), (13, .bool (decide ((l.length : Int) = 0))), (14, .tuple #[.int .i64 ((wayS x7).1), .bool ((wayS x7).2)]), (15, .slice (some ⟨eb7, eo7, none⟩) l.length c), (16, .pointer (some ⟨eb7, eo7 + (0 : Int).toNat * 1, none⟩)), (17, str x7), (18, .tuple #[.int .i64 ((wayS x7).1), .bool ((wayS x7).2)]), (19, .int .i64 ((wayS x7).1)), (20, .bool ((wayS x7).2)), (21, .int .i64 ((wayS x7).1)), (22, .agg #[.int .i64 ((wayS x7).1), .int .i64 0]), (29, .bool ((decide (((wayS x7).1) = 2)) && (decide ((l.length : Int) = 2)))), (30, .tuple #[.int .i64 (okv (countS x17 16)), .int .i64 (erv (countS x17 16))]), (31, .slice (some ⟨eb7, eo7, none⟩) l.length c), (32, .pointer (some ⟨eb7, eo7 + (1 : Int).toNat * 1, none⟩)), (33, str x17), (34, .tuple #[.int .i64 (okv (countS x17 16)), .int .i64 (erv (countS x17 16))]), (35, .int .i64 (okv (countS x17 16))), (36, .int .i64 (erv (countS x17 16))), (41, .bool (((wayS x7).2) && (decide ((erv (countS x17 16)) = 0))))]) ?_ ?_
      · refine (Bool.eq_false_or_eq_true (((wayS x7).2) && (decide ((erv (countS x17 16)) = 0)))).elim (fun hb30 => ?_) (fun hb30 => ?_)
        · skip
          have hk31 := hb30; try simp only [Bool.not_eq_true', Bool.not_eq_false', Bool.and_eq_true, Bool.or_eq_true, Bool.or_eq_false_iff, decide_eq_true_eq, decide_eq_false_iff_not, beq_iff_eq, beq_eq_false_iff_ne, ne_eq] at hk31
          refine op_on HE rfl rfl hb30 ?_
          refine o_move HE rfl rfl ?_; clear HE; intro a HE
          refine op_on HE rfl rfl hb30 ?_
          refine o_lenL HE rfl rfl Tryd.underlying29 ?_; clear HE; intro a HE
          refine op_on HE rfl rfl hb30 ?_
          refine o_eqI HE rfl rfl rfl ?_; clear HE; intro a HE
          refine o_pick_t HE rfl rfl hb30 rfl ?_; clear HE; intro a HE
          exact ⟨rfl, HE.cut ⟨by rw [hb30]; rfl, rfl, rfl, rfl, rfl, rfl, rfl, rfl, rfl, rfl, rfl, rfl, rfl, rfl, rfl, rfl, rfl, rfl, rfl, rfl, rfl, rfl, rfl, rfl, rfl, rfl, rfl, rfl, rfl, rfl, trivial⟩⟩
        · skip
          have hk32 := hb30; try simp only [Bool.not_eq_true', Bool.not_eq_false', Bool.and_eq_true, Bool.or_eq_true, Bool.or_eq_false_iff, decide_eq_true_eq, decide_eq_false_iff_not, beq_iff_eq, beq_eq_false_iff_ne, ne_eq] at hk32
          refine g_off HE rfl rfl rfl hb30 ?_; clear HE; intro a HE
          refine g_off HE rfl rfl rfl hb30 ?_; clear HE; intro a HE
          refine g_off HE rfl rfl rfl hb30 ?_; clear HE; intro a HE
          refine o_pick_f HE rfl rfl hb30 rfl ?_; clear HE; intro a HE
          exact ⟨rfl, HE.cut ⟨by rw [hb30]; rfl, rfl, rfl, rfl, rfl, rfl, rfl, rfl, rfl, rfl, rfl, rfl, rfl, rfl, rfl, rfl, rfl, rfl, rfl, rfl, rfl, rfl, rfl, rfl, rfl, rfl, rfl, rfl, rfl, rfl, trivial⟩⟩
      clear HE; rintro a _ ⟨rfl, HE⟩
      refine o_move HE rfl rfl ?_; clear HE; intro a HE
      obtain ⟨M0, hM0, HS⟩ : ∃ M0, M0 = _ ∧ St w0 G [bp] G28 _ M0 := ⟨_, rfl, HS⟩
      refine cutL 4 (fun a' w' => St w0 G [bp] G28 w' M0 ∧ Env a' 63 [] [(62, .bool (((((wayS x7).2) && (decide ((erv (countS x17 16)) = 0))) && (decide ((((l).take (1 : Int).toNat).length : Int) = 1))) && (ruledB 1 ⟨(wayS x7).1, okv (countS x17 16)⟩))), (0, .pointer (some ⟨bp, 0, none⟩)), (1, .slice (some ⟨eb7, eo7, none⟩) (((l).take (1 : Int).toNat).length) c), (2, .pointer (some ⟨bd, 0, none⟩)), (5, .bool false), (6, .int .i64 ((wayS x7).1)), (7, .bool (((wayS x7).2) && (decide ((erv (countS x17 16)) = 0)))), (8, .pointer (some ⟨B8, 0, none⟩)), (9, .int .i64 (okv (countS x17 16))), (11, .slice (some ⟨eb7, eo7, none⟩) l.length c), (12, .int .i64 (l.length : Int)), (13, .bool (decide ((l.length : Int) = 0))), (14, .tuple #[.int .i64 ((wayS x7).1), .bool ((wayS x7).2)]), (15, .slice (some ⟨eb7, eo7, none⟩) l.length c), (16, .pointer (some ⟨eb7, eo7 + (0 : Int).toNat * 1, none⟩)), (17, str x7), (18, .tuple #[.int .i64 ((wayS x7).1), .bool ((wayS x7).2)]), (19, .int .i64 ((wayS x7).1)), (20, .bool ((wayS x7).2)), (21, .int .i64 ((wayS x7).1)), (22, .agg #[.int .i64 ((wayS x7).1), .int .i64 0]), (29, .bool ((decide (((wayS x7).1) = 2)) && (decide ((l.length : Int) = 2)))), (30, .tuple #[.int .i64 (okv (countS x17 16)), .int .i64 (erv (countS x17 16))]), (31, .slice (some ⟨eb7, eo7, none⟩) l.length c), (32, .pointer (some ⟨eb7, eo7 + (1 : Int).toNat * 1, none⟩)), (33, str x17), (34, .tuple #[.int .i64 (okv (countS x17 16)), .int .i64 (erv (countS x17 16))]), (35, .int .i64 (okv (countS x17 16))), (36, .int .i64 (erv (countS x17 16))), (41, .bool (((wayS x7).2) && (decide ((erv (countS x17 16)) = 0))))]) ?_ ?_
      · refine (Bool.eq_false_or_eq_true ((((wayS x7).2) && (decide ((erv (countS x17 16)) = 0))) && (decide ((((l).take (1 : Int).toNat).length : Int) = 1)))).elim (fun hb33 => ?_) (fun hb33 => ?_)
        · subst hM0
          have hk34 := hb33; try simp only [Bool.not_eq_true', Bool.not_eq_false', Bool.and_eq_true, Bool.or_eq_true, Bool.or_eq_false_iff, decide_eq_true_eq, decide_eq_false_iff_not, beq_iff_eq, beq_eq_false_iff_ne, ne_eq] at hk34
          refine op_on HE rfl rfl hb33 ?_
          refine o_ldI HE rfl HS rfl T.s3 hCd (j := 0) rfl rfl ?_; clear HE; intro a HE
          refine op_on HE rfl rfl hb33 ?_
          refine o_ldA HE rfl HS rfl T.a23 (.here .here) rfl ?_; clear HE; intro a HE
          refine op_on HE rfl rfl hb33 ?_
          refine o_callP HE rfl HS rfl rfl T.g41 (c_ruled 1 (⟨(wayS x7).1, okv (countS x17 16)⟩ : Rul) _ _ HS.sub) ?_
          clear HE HS; rintro _ w a HS rfl HE
          refine o_pick_t HE rfl rfl hb33 rfl ?_; clear HE; intro a HE
          exact ⟨HS, HE.cut ⟨by rw [hb33]; rfl, rfl, rfl, rfl, rfl, rfl, rfl, rfl, rfl, rfl, rfl, rfl, rfl, rfl, rfl, rfl, rfl, rfl, rfl, rfl, rfl, rfl, rfl, rfl, rfl, rfl, rfl, rfl, rfl, rfl, trivial⟩⟩
        · subst hM0
          have hk35 := hb33; try simp only [Bool.not_eq_true', Bool.not_eq_false', Bool.and_eq_true, Bool.or_eq_true, Bool.or_eq_false_iff, decide_eq_true_eq, decide_eq_false_iff_not, beq_iff_eq, beq_eq_false_iff_ne, ne_eq] at hk35
          refine g_off HE rfl rfl rfl hb33 ?_; clear HE; intro a HE
          refine g_off HE rfl rfl rfl hb33 ?_; clear HE; intro a HE
          refine g_off HE rfl rfl rfl hb33 ?_; clear HE; intro a HE
          refine o_pick_f HE rfl rfl hb33 rfl ?_; clear HE; intro a HE
          exact ⟨HS, HE.cut ⟨by rw [hb33]; rfl, rfl, rfl, rfl, rfl, rfl, rfl, rfl, rfl, rfl, rfl, rfl, rfl, rfl, rfl, rfl, rfl, rfl, rfl, rfl, rfl, rfl, rfl, rfl, rfl, rfl, rfl, rfl, rfl, rfl, trivial⟩⟩
      clear HE HS; rintro a w ⟨HS, HE⟩; subst hM0
      refine o_assign HE rfl rfl ?_; clear HE; intro a HE
      refine hK _ _ ?_; clear hK K
      refine wp_ret ?_
      show Q .ret _ _
      refine ret hQ HE rfl (HE.res rfl .nil) ?_
      replace HS := HS.drop (M' := [_]) (sub_drop (sub_keep sub_nil))
      have e0 : w0S l = wayS x7 := by unfold w0S; rw [get0 ex7]
      have e1 := get1 ex17
      have he : ruleS 1 P l = ((⟨⟨P.r0.way, P.r0.size⟩, ⟨(wayS x7).1, okv (countS x17 16)⟩, ⟨P.r2.way, P.r2.size⟩, ⟨P.r3.way, P.r3.size⟩, ⟨P.r4.way, P.r4.size⟩, P.time, P.note, P.loose, P.force⟩ : Pol), ((((wayS x7).2) && (decide ((erv (countS x17 16)) = 0))) && (decide ((((l).take (1 : Int).toNat).length : Int) = 1))) && (ruledB 1 ⟨(wayS x7).1, okv (countS x17 16)⟩)) := by
        unfold ruleS
        rw [if_neg (by omega), if_pos (by rw [e0]; omega), e0, e1]
        rw [show decide (((l.take (1 : Int).toNat).length : Int) = 1) = true from decide_eq_true (by rw [List.length_take]; omega), Bool.and_true]
        rfl
      exact ⟨_, [(bp, Cells 26 [(0, .int .i64 P.r0.way), (1, .int .i64 P.r0.size), (2, .int .i64 ((wayS x7).1)), (3, .int .i64 (okv (countS x17 16))), (4, .int .i64 P.r2.way), (5, .int .i64 P.r2.size), (6, .int .i64 P.r3.way), (7, .int .i64 P.r3.size), (8, .int .i64 P.r4.way), (9, .int .i64 P.r4.size), (10, .int .i64 P.time), (11, .int .i64 P.note), (12, .bool P.loose), (13, .bool P.force)])], HS.stop (by simp), by rw [he] <;> rfl, by rw [he] <;> rfl⟩
    · have h16r := h16; try simp only [Bool.not_eq_true', Bool.not_eq_false', Bool.and_eq_true, Bool.or_eq_true, Bool.or_eq_false_iff, Bool.and_eq_false_iff, decide_eq_true_eq, decide_eq_false_iff_not, beq_iff_eq, beq_eq_false_iff_ne, ne_eq] at h16
      refine wp_skip ?_
      refine hK10 _ _ ?_; clear hK10
      refine wp_seq_k (fun K38 hK37 => ?_)
      replace HS := HS.conv (L2 := [(0, _), (1, _)]) (.here .here) ⟨rfl, rfl, trivial⟩
      replace HE := HE.cut (L' := [(0, .pointer (some ⟨bp, 0, none⟩)), (1, .slice (some ⟨eb7, eo7, none⟩) l.length c), (2, .pointer (some ⟨bd, 0, none⟩)), (5, .bool false), (6, .int .i64 ((wayS x7).1)), (7, .bool ((wayS x7).2)), (8, .pointer (some ⟨B8, 0, none⟩)), (11, .slice (some ⟨eb7, eo7, none⟩) l.length c), (12, .int .i64 (l.length : Int)), (13, .bool (decide ((l.length : Int) = 0))), (14, .tuple #[.int .i64 ((wayS x7).1), .bool ((wayS x7).2)]), (15, .slice (some ⟨eb7, eo7, none⟩) l.length c), (16, .pointer (some ⟨eb7, eo7 + (0 : Int).toNat * 1, none⟩)), (17, str x7), (18, .tuple #[.int .i64 ((wayS x7).1), .bool ((wayS x7).2)]), (19, .int .i64 ((wayS x7).1)), (20, .bool ((wayS x7).2)), (21, .int .i64 ((wayS x7).1)), (22, .agg #[.int .i64 ((wayS x7).1), .int .i64 0]), (29, .bool ((decide (((wayS x7).1) = 2)) && (decide ((l.length : Int) = 2))))]) ⟨rfl, rfl, rfl, rfl, rfl, rfl, rfl, rfl, rfl, rfl, rfl, rfl, rfl, rfl, rfl, rfl, rfl, rfl, rfl, rfl, trivial⟩
      refine drawnF (fun f G' w => Heap.le G G' ∧ St w0 G [bp] G' w [[(B8, Cells 23 [(0, .int .i64 ((wayS x7).1)), (1, .int .i64 0)])], [(bp, Cells 26 [(0, .int .i64 P.r0.way), (1, .int .i64 P.r0.size), (2, bif f 6 then .int .i64 ((wayS x7).1) else .int .i64 P.r1.way), (3, bif f 6 then .int .i64 0 else .int .i64 P.r1.size), (4, .int .i64 P.r2.way), (5, .int .i64 P.r2.size), (6, .int .i64 P.r3.way), (7, .int .i64 P.r3.size), (8, .int .i64 P.r4.way), (9, .int .i64 P.r4.size), (10, .int .i64 P.time), (11, .int .i64 P.note), (12, .bool P.loose), (13, .bool P.force)])]]) [fun v _ => v = .pointer (some ⟨bp, 0, none⟩), fun v _ => v = .int .i64 1, fun v _ => v = .agg #[.int .i64 ((wayS x7).1), .int .i64 0], fun v _ => v = .pointer (some ⟨bp, 0, none⟩), fun v _ => v = .pointer (some ⟨bp, 0, none⟩), fun v _ => v = .pointer (some ⟨bp, 2, none⟩), fun _ _ => True] [] T.mix rfl HE ⟨Heap.le.refl _, HS.drew⟩ rfl (by simp) (AllM.get ⟨fun _ _ _ _ h => h, fun _ _ _ _ h => h, fun _ _ _ _ h => h, fun _ _ _ _ h => h, fun _ _ _ _ h => h, fun _ _ _ _ h => h, fun _ _ _ _ h => h, trivial⟩) ⟨?_, ?_, ?_, ?_, ?_, ?_, ?_, trivial⟩ ?_
      · intro a w G1 f hcl hfi hon hW HE hp hO; obtain ⟨hl, HS⟩ := hW
        refine o_move HE rfl rfl ?_; clear HE; intro a HE
        exact ⟨_, _, Heap.le.refl _, ⟨hl, HS⟩, fun d hd => (by cases hd; exact HE.get _ _ rfl), HE.defers, rfl⟩
      · intro a w G1 f hcl hfi hon hW HE hp hO; obtain ⟨hl, HS⟩ := hW
        refine o_ldI HE rfl HS rfl T.s3 (hCd.le hl) (j := 0) rfl rfl ?_; clear HE; intro a HE
        exact ⟨_, _, Heap.le.refl _, ⟨hl, HS⟩, fun d hd => (by cases hd; exact HE.get _ _ rfl), HE.defers, rfl⟩
      · intro a w G1 f hcl hfi hon hW HE hp hO; obtain ⟨hl, HS⟩ := hW
        refine o_ldA HE rfl HS rfl T.a23 (.here .here) rfl ?_; clear HE; intro a HE
        exact ⟨_, _, Heap.le.refl _, ⟨hl, HS⟩, fun d hd => (by cases hd; exact HE.get _ _ rfl), HE.defers, rfl⟩
      · intro a w G1 f hcl hfi hon hW HE hp hO; obtain ⟨hl, HS⟩ := hW
        obtain ⟨_, e0, rfl⟩ := hp 0 46 _ (hon 0 rfl) rfl rfl; replace HE := HE.add e0
        refine o_nil HE rfl rfl ?_; clear HE; intro a HE
        exact ⟨_, _, Heap.le.refl _, ⟨hl, HS⟩, fun d hd => (by cases hd; exact HE.get _ _ rfl), HE.defers, rfl⟩
      · intro a w G1 f hcl hfi hon hW HE hp hO; obtain ⟨hl, HS⟩ := hW
        obtain ⟨_, e3, rfl⟩ := hp 3 49 _ (hon 3 rfl) rfl rfl; replace HE := HE.add e3
        refine o_fld HE rfl rfl T.f26_0 ?_; clear HE; intro a HE
        exact ⟨_, _, Heap.le.refl _, ⟨hl, HS⟩, fun d hd => (by cases hd; exact HE.get _ _ rfl), HE.defers, rfl⟩
      · intro a w G1 f hcl hfi hon hW HE hp hO; obtain ⟨hl, HS⟩ := hW
        obtain ⟨_, e4, rfl⟩ := hp 4 50 _ (hon 4 rfl) rfl rfl; replace HE := HE.add e4
        obtain ⟨_, e1, rfl⟩ := hp 1 47 _ (hon 1 rfl) rfl rfl; replace HE := HE.add e1
        refine o_ixA HE rfl rfl rfl T.r24 (by decide) ?_; clear HE; intro a HE
        exact ⟨_, _, Heap.le.refl _, ⟨hl, HS⟩, fun d hd => (by cases hd; exact HE.get _ _ rfl), HE.defers, rfl⟩
      · intro a w G1 f hcl hfi hon hW HE hp hO; obtain ⟨hl, HS⟩ := hW
        obtain ⟨_, e5, rfl⟩ := hp 5 51 _ (hon 5 rfl) rfl rfl; replace HE := HE.add e5
        obtain ⟨_, e2, rfl⟩ := hp 2 48 _ (hon 2 rfl) rfl rfl; replace HE := HE.add e2
        refine o_stA HE HS rfl rfl rfl T.a23 (.there (.here .here)) rfl ?_; clear HS; intro w HS
        replace HS := HS.conv (L2 := [(0, _), (1, _), (2, _), (3, _), (4, _), (5, _), (6, _), (7, _), (8, _), (9, _), (10, _), (11, _), (12, _), (13, _)]) (.there (.here .here)) ⟨rfl, rfl, rfl, rfl, rfl, rfl, rfl, rfl, rfl, rfl, rfl, rfl, rfl, rfl, trivial⟩
        exact ⟨.bool true, _, Heap.le.refl _, ⟨hl, HS⟩, fun d hd => (by cases hd), HE.defers, trivial⟩
      clear HE HS; intro a w G39 f hle40 hall HW HE hp; obtain ⟨_, HS⟩ := HW
      have hfw6 := hall 6 (by decide)
      simp only [hfw6, cond_true] at HS
      replace hR := hR.le hle40
      replace hCd := hCd.le hle40
      replace hgw := hgw.le hle40
      clear hp hall
      refine hK37 _ _ ?_; clear hK37
      refine wp_seq_k (fun K hK => ?_); refine wp_region_lit ?_
      refine o_move HE rfl rfl ?_; clear HE; intro a HE
      refine o_move HE rfl rfl ?_; clear HE; intro a HE
      refine cutL 4 (fun a' w' => w = w' ∧ Env a' 63 [] [(57, .bool (((wayS x7).2) && (decide ((l.length : Int) = 1)))), (0, .pointer (some ⟨bp, 0, none⟩)), (1, .slice (some ⟨eb7, eo7, none⟩) l.length c), (2, .pointer (some ⟨bd, 0, none⟩)), (5, .bool false), (6, .int .i64 ((wayS x7).1)), (7, .bool ((wayS x7).2)), (8, .pointer (some ⟨B8, 0, none⟩)), (11, .slice (some ⟨eb7, eo7, none⟩) l.length c), (12, .int .i64 (l.length : Int)), (13, .bool (decide ((l.length : Int) = 0))), (14, .tuple #[.int .i64 ((wayS x7).1), .bool ((wayS x7).2)]), (15, .slice (some ⟨eb7, eo7, none⟩) l.length c), (16, .pointer (some ⟨eb7, eo7 + (0 : Int).toNat * 1, none⟩)), (17, str x7), (18, .tuple #[.int .i64 ((wayS x7).1), .bool ((wayS x7).2)]), (19, .int .i64 ((wayS x7).1)), (20, .bool ((wayS x7).2)), (21, .int .i64 ((wayS x7).1)), (22, .agg #[.int .i64 ((wayS x7).1), .int .i64 0]), (29, .bool ((decide (((wayS x7).1) = 2)) && (decide ((l.length : Int) = 2))))]) ?_ ?_
      · refine (Bool.eq_false_or_eq_true ((wayS x7).2)).elim (fun hb41 => ?_) (fun hb41 => ?_)
        · skip
          have hk42 := hb41; try simp only [Bool.not_eq_true', Bool.not_eq_false', Bool.and_eq_true, Bool.or_eq_true, Bool.or_eq_false_iff, decide_eq_true_eq, decide_eq_false_iff_not, beq_iff_eq, beq_eq_false_iff_ne, ne_eq] at hk42
          refine op_on HE rfl rfl hb41 ?_
          refine o_move HE rfl rfl ?_; clear HE; intro a HE
          refine op_on HE rfl rfl hb41 ?_
          refine o_lenL HE rfl rfl Tryd.underlying29 ?_; clear HE; intro a HE
          refine op_on HE rfl rfl hb41 ?_
          refine o_eqI HE rfl rfl rfl ?_; clear HE; intro a HE
          refine o_pick_t HE rfl rfl hb41 rfl ?_; clear HE; intro a HE
          exact ⟨rfl, HE.cut ⟨by rw [hb41]; rfl, rfl, rfl, rfl, rfl, rfl, rfl, rfl, rfl, rfl, rfl, rfl, rfl, rfl, rfl, rfl, rfl, rfl, rfl, rfl, rfl, trivial⟩⟩
        · skip
          have hk43 := hb41; try simp only [Bool.not_eq_true', Bool.not_eq_false', Bool.and_eq_true, Bool.or_eq_true, Bool.or_eq_false_iff, decide_eq_true_eq, decide_eq_false_iff_not, beq_iff_eq, beq_eq_false_iff_ne, ne_eq] at hk43
          refine g_off HE rfl rfl rfl hb41 ?_; clear HE; intro a HE
          refine g_off HE rfl rfl rfl hb41 ?_; clear HE; intro a HE
          refine g_off HE rfl rfl rfl hb41 ?_; clear HE; intro a HE
          refine o_pick_f HE rfl rfl hb41 rfl ?_; clear HE; intro a HE
          exact ⟨rfl, HE.cut ⟨by rw [hb41]; rfl, rfl, rfl, rfl, rfl, rfl, rfl, rfl, rfl, rfl, rfl, rfl, rfl, rfl, rfl, rfl, rfl, rfl, rfl, rfl, rfl, trivial⟩⟩
      clear HE; rintro a _ ⟨rfl, HE⟩
      refine o_move HE rfl rfl ?_; clear HE; intro a HE
      obtain ⟨M0, hM0, HS⟩ : ∃ M0, M0 = _ ∧ St w0 G [bp] G39 _ M0 := ⟨_, rfl, HS⟩
      refine cutL 4 (fun a' w' => St w0 G [bp] G39 w' M0 ∧ Env a' 63 [] [(62, .bool ((((wayS x7).2) && (decide ((l.length : Int) = 1))) && (ruledB 1 ⟨(wayS x7).1, 0⟩))), (0, .pointer (some ⟨bp, 0, none⟩)), (1, .slice (some ⟨eb7, eo7, none⟩) l.length c), (2, .pointer (some ⟨bd, 0, none⟩)), (5, .bool false), (6, .int .i64 ((wayS x7).1)), (7, .bool ((wayS x7).2)), (8, .pointer (some ⟨B8, 0, none⟩)), (11, .slice (some ⟨eb7, eo7, none⟩) l.length c), (12, .int .i64 (l.length : Int)), (13, .bool (decide ((l.length : Int) = 0))), (14, .tuple #[.int .i64 ((wayS x7).1), .bool ((wayS x7).2)]), (15, .slice (some ⟨eb7, eo7, none⟩) l.length c), (16, .pointer (some ⟨eb7, eo7 + (0 : Int).toNat * 1, none⟩)), (17, str x7), (18, .tuple #[.int .i64 ((wayS x7).1), .bool ((wayS x7).2)]), (19, .int .i64 ((wayS x7).1)), (20, .bool ((wayS x7).2)), (21, .int .i64 ((wayS x7).1)), (22, .agg #[.int .i64 ((wayS x7).1), .int .i64 0]), (29, .bool ((decide (((wayS x7).1) = 2)) && (decide ((l.length : Int) = 2))))]) ?_ ?_
      · refine (Bool.eq_false_or_eq_true (((wayS x7).2) && (decide ((l.length : Int) = 1)))).elim (fun hb44 => ?_) (fun hb44 => ?_)
        · subst hM0
          have hk45 := hb44; try simp only [Bool.not_eq_true', Bool.not_eq_false', Bool.and_eq_true, Bool.or_eq_true, Bool.or_eq_false_iff, decide_eq_true_eq, decide_eq_false_iff_not, beq_iff_eq, beq_eq_false_iff_ne, ne_eq] at hk45
          refine op_on HE rfl rfl hb44 ?_
          refine o_ldI HE rfl HS rfl T.s3 hCd (j := 0) rfl rfl ?_; clear HE; intro a HE
          refine op_on HE rfl rfl hb44 ?_
          refine o_ldA HE rfl HS rfl T.a23 (.here .here) rfl ?_; clear HE; intro a HE
          refine op_on HE rfl rfl hb44 ?_
          refine o_callP HE rfl HS rfl rfl T.g41 (c_ruled 1 (⟨(wayS x7).1, 0⟩ : Rul) _ _ HS.sub) ?_
          clear HE HS; rintro _ w a HS rfl HE
          refine o_pick_t HE rfl rfl hb44 rfl ?_; clear HE; intro a HE
          exact ⟨HS, HE.cut ⟨by rw [hb44]; rfl, rfl, rfl, rfl, rfl, rfl, rfl, rfl, rfl, rfl, rfl, rfl, rfl, rfl, rfl, rfl, rfl, rfl, rfl, rfl, rfl, trivial⟩⟩
        · subst hM0
          have hk46 := hb44; try simp only [Bool.not_eq_true', Bool.not_eq_false', Bool.and_eq_true, Bool.or_eq_true, Bool.or_eq_false_iff, decide_eq_true_eq, decide_eq_false_iff_not, beq_iff_eq, beq_eq_false_iff_ne, ne_eq] at hk46
          refine g_off HE rfl rfl rfl hb44 ?_; clear HE; intro a HE
          refine g_off HE rfl rfl rfl hb44 ?_; clear HE; intro a HE
          refine g_off HE rfl rfl rfl hb44 ?_; clear HE; intro a HE
          refine o_pick_f HE rfl rfl hb44 rfl ?_; clear HE; intro a HE
          exact ⟨HS, HE.cut ⟨by rw [hb44]; rfl, rfl, rfl, rfl, rfl, rfl, rfl, rfl, rfl, rfl, rfl, rfl, rfl, rfl, rfl, rfl, rfl, rfl, rfl, rfl, rfl, trivial⟩⟩
      clear HE HS; rintro a w ⟨HS, HE⟩; subst hM0
      refine o_assign HE rfl rfl ?_; clear HE; intro a HE
      refine hK _ _ ?_; clear hK K
      refine wp_ret ?_
      show Q .ret _ _
      refine ret hQ HE rfl (HE.res rfl .nil) ?_
      replace HS := HS.drop (M' := [_]) (sub_drop (sub_keep sub_nil))
      have e0 : w0S l = wayS x7 := by unfold w0S; rw [get0 ex7]
      have he : ruleS 1 P l = ((⟨⟨P.r0.way, P.r0.size⟩, ⟨(wayS x7).1, 0⟩, ⟨P.r2.way, P.r2.size⟩, ⟨P.r3.way, P.r3.size⟩, ⟨P.r4.way, P.r4.size⟩, P.time, P.note, P.loose, P.force⟩ : Pol), (((wayS x7).2) && (decide ((l.length : Int) = 1))) && (ruledB 1 ⟨(wayS x7).1, 0⟩)) := by
        unfold ruleS
        rw [if_neg (by omega), if_neg (by rw [e0]; omega), e0]
        rw [show decide ((l.length : Int) = 1) = decide (l.length = 1) from decide_eq_decide.2 (by omega)]
        rfl
      exact ⟨_, [(bp, Cells 26 [(0, .int .i64 P.r0.way), (1, .int .i64 P.r0.size), (2, .int .i64 ((wayS x7).1)), (3, .int .i64 0), (4, .int .i64 P.r2.way), (5, .int .i64 P.r2.size), (6, .int .i64 P.r3.way), (7, .int .i64 P.r3.size), (8, .int .i64 P.r4.way), (9, .int .i64 P.r4.size), (10, .int .i64 P.time), (11, .int .i64 P.note), (12, .bool P.loose), (13, .bool P.force)])], HS.stop (by simp), by rw [he] <;> rfl, by rw [he] <;> rfl⟩

end Go.Proofs.YtiinipcmghhacaaDoor.T10
