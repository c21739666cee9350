/- Own text. -/
import Derived.Test.YtiinipcmghhacaaDoorA12
set_option linter.unusedVariables false
set_option linter.unusedSimpArgs false
namespace Go.Proofs.YtiinipcmghhacaaDoor.T10
open Go Go.Proofs.YtiinipcmghhacaaDoor.X
theorem T.c5_3 : convOk Tryd.prog 5 3 .i64 = true := by kernel_rfl
theorem T.g15 : goFn Tryd.prog 15 = true := by kernel_rfl
theorem T.g16 : goFn Tryd.prog 16 = true := by kernel_rfl
/-! `incognito/incognitoref25.Print` -/
set_option maxRecDepth 100000 in
set_option maxHeartbeats 4000000 in
theorem c_Print25 (p : Pol) (w0 : World) (G : Heap) (hG : Sub G w0) :
    Calls Tryd.prog 16 #[.agg #[.int .i64 p.r0.way, .int .i64 p.r0.size, .int .i64 p.r1.way, .int .i64 p.r1.size, .int .i64 p.r2.way, .int .i64 p.r2.size, .int .i64 p.r3.way, .int .i64 p.r3.size, .int .i64 p.r4.way, .int .i64 p.r4.size, .int .i64 p.time, .int .i64 p.note, .bool p.loose, .bool p.force]] w0 (Ret w0 G (fun v _ => v = str (printR p))) := by
  refine enter Tryd.func16 rfl Tryd.ntmps16 rfl ?_
  intro Q hQ a HE
  have HS := St.start0 hG
  refine wp_seq_k (fun K hK => ?_); refine wp_region_lit ?_
  refine o_boxL [(0, _), (1, _), (2, _), (3, _), (4, _), (5, _), (6, _), (7, _), (8, _), (9, _), (10, _), (11, _), (12, _), (13, _)] HE rfl HS rfl ⟨rfl, rfl, rfl, rfl, rfl, rfl, rfl, rfl, rfl, rfl, rfl, rfl, rfl, rfl, trivial⟩ ?_; clear HE HS; intro B1 w a HS HE
  refine o_assign HE rfl rfl ?_; clear HE; intro a HE
  refine hK _ _ ?_; clear hK K
  refine wp_seq_k (fun K3 hK2 => ?_)
  refine wp_seq_k (fun K hK => ?_); refine wp_region_lit ?_
  refine o_ldA HE rfl HS rfl T.a26 (.here .here) rfl ?_; clear HE; intro a HE
  refine o_callP HE rfl HS rfl rfl T.g15 (c_Right p _ _ HS.sub) ?_
  clear HE HS; rintro _ w a HS rfl HE
  refine o_not HE rfl rfl ?_; clear HE; intro a HE
  refine hK _ _ ?_; clear hK K
  refine cond HE rfl (fun h5 => ?_) (fun h5 => ?_)
  · have h5r := h5; try simp only [Bool.not_eq_true', Bool.not_eq_false', Bool.and_eq_true, Bool.or_eq_true, Bool.or_eq_false_iff, Bool.and_eq_false_iff, decide_eq_true_eq, decide_eq_false_iff_not, beq_iff_eq, beq_eq_false_iff_ne, ne_eq] at h5
    refine wp_seq_k (fun K hK => ?_); refine wp_region_lit ?_
    refine o_assign HE rfl rfl ?_; clear HE; intro a HE
    refine hK _ _ ?_; clear hK K
    refine wp_ret ?_
    show Q .ret _ _
    refine ret hQ HE rfl (HE.res rfl .nil) ⟨_, _, HS.stop (List.nil_sublist _), rfl, ?_⟩
    have e : printR p = [] := by
      unfold printR
      rw [if_neg (by simpa using h5r)]
    show _ = _
    rw [e]
    rfl
  · have h5r := h5; try simp only [Bool.not_eq_true', Bool.not_eq_false', Bool.and_eq_true, Bool.or_eq_true, Bool.or_eq_false_iff, Bool.and_eq_false_iff, decide_eq_true_eq, decide_eq_false_iff_not, beq_iff_eq, beq_eq_false_iff_ne, ne_eq] at h5
    refine wp_skip ?_
    refine hK2 _ _ ?_; clear hK2
    refine wp_seq_k (fun K hK => ?_); refine wp_region_lit ?_
    refine o_assign HE rfl rfl ?_; clear HE; intro a HE
    refine hK _ _ ?_; clear hK K
    refine wp_seq_k (fun K9 hK8 => ?_)
    refine wp_seq_k (fun K hK => ?_); refine wp_region_lit ?_
    have hp : rightB p = true := by simpa using h5r
    have hsz := right_size hp
    have hL0 : (saidS 0 (⟨p.r0.way, p.r0.size⟩ : Rul)).length ≤ 40 := (sLine_plain hp (keys_7 p 0 (by decide))).2.1
    have hL1 : (saidS 1 (⟨p.r1.way, p.r1.size⟩ : Rul)).length ≤ 40 := (sLine_plain hp (keys_7 p 1 (by decide))).2.1
    have hL2 : (saidS 2 (⟨p.r2.way, p.r2.size⟩ : Rul)).length ≤ 40 := (sLine_plain hp (keys_7 p 2 (by decide))).2.1
    have hL3 : (saidS 3 (⟨p.r3.way, p.r3.size⟩ : Rul)).length ≤ 40 := (sLine_plain hp (keys_7 p 3 (by decide))).2.1
    have hL4 : (saidS 4 (⟨p.r4.way, p.r4.size⟩ : Rul)).length ≤ 40 := (sLine_plain hp (keys_7 p 4 (by decide))).2.1
    refine o_assign HE rfl rfl ?_; clear HE; intro a HE
    refine hK _ _ ?_; clear hK K
    refine wp_block ?_
    refine wp_loop_rounds 6 ?_
    rw [rounds_succ]
    refine wp_seq_k (fun K12 hK11 => ?_)
    refine wp_seq_k (fun K hK => ?_); refine wp_region_lit ?_
    refine o_move HE rfl rfl ?_; clear HE; intro a HE
    refine o_lss HE rfl rfl rfl ?_; clear HE; intro a HE
    refine hK _ _ ?_; clear hK K
    refine cond HE rfl (fun h14 => ?_) (fun h14 => ?_)
    · have h14r := h14; try simp only [Bool.not_eq_true', Bool.not_eq_false', Bool.and_eq_true, Bool.or_eq_true, Bool.or_eq_false_iff, Bool.and_eq_false_iff, decide_eq_true_eq, decide_eq_false_iff_not, beq_iff_eq, beq_eq_false_iff_ne, ne_eq] at h14
      refine wp_skip ?_
      refine hK11 _ _ ?_; clear hK11
      refine wp_seq_k (fun K16 hK15 => ?_)
      refine wp_block ?_
      refine wp_region_lit ?_
      refine o_move HE rfl rfl ?_; clear HE; intro a HE
      refine o_move HE rfl rfl ?_; clear HE; intro a HE
      refine o_move HE rfl rfl ?_; clear HE; intro a HE
      refine o_fld HE rfl rfl T.f26_0 ?_; clear HE; intro a HE
      refine o_ixA HE rfl rfl rfl T.r24 (by decide) ?_; clear HE; intro a HE
      refine o_ldA HE rfl HS rfl T.a23 (.here .here) rfl ?_; clear HE; intro a HE
      refine o_callP HE rfl HS rfl rfl T.g35 (c_said 0 (⟨p.r0.way, p.r0.size⟩ : Rul) _ _ HS.sub (by first | assumption | (constructor <;> dsimp only <;> omega))) ?_
      clear HE HS; rintro _ w a HS rfl HE
      refine o_cat HE rfl rfl rfl (by (simp; omega)) ?_; clear HE; intro a HE
      refine o_cat HE rfl rfl rfl (by (simp; omega)) ?_; clear HE; intro a HE
      refine o_assign HE rfl rfl ?_; clear HE; intro a HE
      refine hK15 _ _ ?_; clear hK15
      refine wp_region_lit ?_
      refine o_move HE rfl rfl ?_; clear HE; intro a HE
      refine o_add HE rfl rfl rfl (by omega) ?_; clear HE; intro a HE
      skip
      refine o_assign HE rfl rfl ?_; clear HE; intro a HE
      show Code.rounds _ _ _ _ _ _
      replace HE := HE.cut (L' := [(1, .pointer (some ⟨B1, 0, none⟩)), (3, str (([] ++ (saidS 0 (⟨p.r0.way, p.r0.size⟩ : Rul))) ++ [10])), (4, .int .i64 1)]) ⟨rfl, rfl, rfl, trivial⟩
      rw [rounds_succ]
      refine wp_seq_k (fun K18 hK17 => ?_)
      refine wp_seq_k (fun K hK => ?_); refine wp_region_lit ?_
      refine o_move HE rfl rfl ?_; clear HE; intro a HE
      refine o_lss HE rfl rfl rfl ?_; clear HE; intro a HE
      refine hK _ _ ?_; clear hK K
      refine cond HE rfl (fun h20 => ?_) (fun h20 => ?_)
      · have h20r := h20; try simp only [Bool.not_eq_true', Bool.not_eq_false', Bool.and_eq_true, Bool.or_eq_true, Bool.or_eq_false_iff, Bool.and_eq_false_iff, decide_eq_true_eq, decide_eq_false_iff_not, beq_iff_eq, beq_eq_false_iff_ne, ne_eq] at h20
        refine wp_skip ?_
        refine hK17 _ _ ?_; clear hK17
        refine wp_seq_k (fun K22 hK21 => ?_)
        refine wp_block ?_
        refine wp_region_lit ?_
        refine o_move HE rfl rfl ?_; clear HE; intro a HE
        refine o_move HE rfl rfl ?_; clear HE; intro a HE
        refine o_move HE rfl rfl ?_; clear HE; intro a HE
        refine o_fld HE rfl rfl T.f26_0 ?_; clear HE; intro a HE
        refine o_ixA HE rfl rfl rfl T.r24 (by decide) ?_; clear HE; intro a HE
        refine o_ldA HE rfl HS rfl T.a23 (.here .here) rfl ?_; clear HE; intro a HE
        refine o_callP HE rfl HS rfl rfl T.g35 (c_said 1 (⟨p.r1.way, p.r1.size⟩ : Rul) _ _ HS.sub (by first | assumption | (constructor <;> dsimp only <;> omega))) ?_
        clear HE HS; rintro _ w a HS rfl HE
        refine o_cat HE rfl rfl rfl (by (simp; omega)) ?_; clear HE; intro a HE
        refine o_cat HE rfl rfl rfl (by (simp; omega)) ?_; clear HE; intro a HE
        refine o_assign HE rfl rfl ?_; clear HE; intro a HE
        refine hK21 _ _ ?_; clear hK21
        refine wp_region_lit ?_
        refine o_move HE rfl rfl ?_; clear HE; intro a HE
        refine o_add HE rfl rfl rfl (by omega) ?_; clear HE; intro a HE
        skip
        refine o_assign HE rfl rfl ?_; clear HE; intro a HE
        show Code.rounds _ _ _ _ _ _
        replace HE := HE.cut (L' := [(1, .pointer (some ⟨B1, 0, none⟩)), (3, str (((([] ++ (saidS 0 (⟨p.r0.way, p.r0.size⟩ : Rul))) ++ [10]) ++ (saidS 1 (⟨p.r1.way, p.r1.size⟩ : Rul))) ++ [10])), (4, .int .i64 2)]) ⟨rfl, rfl, rfl, trivial⟩
        rw [rounds_succ]
        refine wp_seq_k (fun K24 hK23 => ?_)
        refine wp_seq_k (fun K hK => ?_); refine wp_region_lit ?_
        refine o_move HE rfl rfl ?_; clear HE; intro a HE
        refine o_lss HE rfl rfl rfl ?_; clear HE; intro a HE
        refine hK _ _ ?_; clear hK K
        refine cond HE rfl (fun h26 => ?_) (fun h26 => ?_)
        · have h26r := h26; try simp only [Bool.not_eq_true', Bool.not_eq_false', Bool.and_eq_true, Bool.or_eq_true, Bool.or_eq_false_iff, Bool.and_eq_false_iff, decide_eq_true_eq, decide_eq_false_iff_not, beq_iff_eq, beq_eq_false_iff_ne, ne_eq] at h26
          refine wp_skip ?_
          refine hK23 _ _ ?_; clear hK23
          refine wp_seq_k (fun K28 hK27 => ?_)
          refine wp_block ?_
          refine wp_region_lit ?_
          refine o_move HE rfl rfl ?_; clear HE; intro a HE
          refine o_move HE rfl rfl ?_; clear HE; intro a HE
          refine o_move HE rfl rfl ?_; clear HE; intro a HE
          refine o_fld HE rfl rfl T.f26_0 ?_; clear HE; intro a HE
          refine o_ixA HE rfl rfl rfl T.r24 (by decide) ?_; clear HE; intro a HE
          refine o_ldA HE rfl HS rfl T.a23 (.here .here) rfl ?_; clear HE; intro a HE
          refine o_callP HE rfl HS rfl rfl T.g35 (c_said 2 (⟨p.r2.way, p.r2.size⟩ : Rul) _ _ HS.sub (by first | assumption | (constructor <;> dsimp only <;> omega))) ?_
          clear HE HS; rintro _ w a HS rfl HE
          refine o_cat HE rfl rfl rfl (by (simp; omega)) ?_; clear HE; intro a HE
          refine o_cat HE rfl rfl rfl (by (simp; omega)) ?_; clear HE; intro a HE
          refine o_assign HE rfl rfl ?_; clear HE; intro a HE
          refine hK27 _ _ ?_; clear hK27
          refine wp_region_lit ?_
          refine o_move HE rfl rfl ?_; clear HE; intro a HE
          refine o_add HE rfl rfl rfl (by omega) ?_; clear HE; intro a HE
          skip
          refine o_assign HE rfl rfl ?_; clear HE; intro a HE
          show Code.rounds _ _ _ _ _ _
          replace HE := HE.cut (L' := [(1, .pointer (some ⟨B1, 0, none⟩)), (3, str (((((([] ++ (saidS 0 (⟨p.r0.way, p.r0.size⟩ : Rul))) ++ [10]) ++ (saidS 1 (⟨p.r1.way, p.r1.size⟩ : Rul))) ++ [10]) ++ (saidS 2 (⟨p.r2.way, p.r2.size⟩ : Rul))) ++ [10])), (4, .int .i64 3)]) ⟨rfl, rfl, rfl, trivial⟩
          rw [rounds_succ]
          refine wp_seq_k (fun K30 hK29 => ?_)
          refine wp_seq_k (fun K hK => ?_); refine wp_region_lit ?_
          refine o_move HE rfl rfl ?_; clear HE; intro a HE
          refine o_lss HE rfl rfl rfl ?_; clear HE; intro a HE
          refine hK _ _ ?_; clear hK K
          refine cond HE rfl (fun h32 => ?_) (fun h32 => ?_)
          · have h32r := h32; try simp only [Bool.not_eq_true', Bool.not_eq_false', Bool.and_eq_true, Bool.or_eq_true, Bool.or_eq_false_iff, Bool.and_eq_false_iff, decide_eq_true_eq, decide_eq_false_iff_not, beq_iff_eq, beq_eq_false_iff_ne, ne_eq] at h32
            refine wp_skip ?_
            refine hK29 _ _ ?_; clear hK29
            refine wp_seq_k (fun K34 hK33 => ?_)
            refine wp_block ?_
            refine wp_region_lit ?_
            refine o_move HE rfl rfl ?_; clear HE; intro a HE
            refine o_move HE rfl rfl ?_; clear HE; intro a HE
            refine o_move HE rfl rfl ?_; clear HE; intro a HE
            refine o_fld HE rfl rfl T.f26_0 ?_; clear HE; intro a HE
            refine o_ixA HE rfl rfl rfl T.r24 (by decide) ?_; clear HE; intro a HE
            refine o_ldA HE rfl HS rfl T.a23 (.here .here) rfl ?_; clear HE; intro a HE
            refine o_callP HE rfl HS rfl rfl T.g35 (c_said 3 (⟨p.r3.way, p.r3.size⟩ : Rul) _ _ HS.sub (by first | assumption | (constructor <;> dsimp only <;> omega))) ?_
            clear HE HS; rintro _ w a HS rfl HE
            refine o_cat HE rfl rfl rfl (by (simp; omega)) ?_; clear HE; intro a HE
            refine o_cat HE rfl rfl rfl (by (simp; omega)) ?_; clear HE; intro a HE
            refine o_assign HE rfl rfl ?_; clear HE; intro a HE
            refine hK33 _ _ ?_; clear hK33
            refine wp_region_lit ?_
            refine o_move HE rfl rfl ?_; clear HE; intro a HE
            refine o_add HE rfl rfl rfl (by omega) ?_; clear HE; intro a HE
            skip
            refine o_assign HE rfl rfl ?_; clear HE; intro a HE
            show Code.rounds _ _ _ _ _ _
            replace HE := HE.cut (L' := [(1, .pointer (some ⟨B1, 0, none⟩)), (3, str (((((((([] ++ (saidS 0 (⟨p.r0.way, p.r0.size⟩ : Rul))) ++ [10]) ++ (saidS 1 (⟨p.r1.way, p.r1.size⟩ : Rul))) ++ [10]) ++ (saidS 2 (⟨p.r2.way, p.r2.size⟩ : Rul))) ++ [10]) ++ (saidS 3 (⟨p.r3.way, p.r3.size⟩ : Rul))) ++ [10])), (4, .int .i64 4)]) ⟨rfl, rfl, rfl, trivial⟩
            rw [rounds_succ]
            refine wp_seq_k (fun K36 hK35 => ?_)
            refine wp_seq_k (fun K hK => ?_); refine wp_region_lit ?_
            refine o_move HE rfl rfl ?_; clear HE; intro a HE
            refine o_lss HE rfl rfl rfl ?_; clear HE; intro a HE
            refine hK _ _ ?_; clear hK K
            refine cond HE rfl (fun h38 => ?_) (fun h38 => ?_)
            · have h38r := h38; try simp only [Bool.not_eq_true', Bool.not_eq_false', Bool.and_eq_true, Bool.or_eq_true, Bool.or_eq_false_iff, Bool.and_eq_false_iff, decide_eq_true_eq, decide_eq_false_iff_not, beq_iff_eq, beq_eq_false_iff_ne, ne_eq] at h38
              refine wp_skip ?_
              refine hK35 _ _ ?_; clear hK35
              refine wp_seq_k (fun K40 hK39 => ?_)
              refine wp_block ?_
              refine wp_region_lit ?_
              refine o_move HE rfl rfl ?_; clear HE; intro a HE
              refine o_move HE rfl rfl ?_; clear HE; intro a HE
              refine o_move HE rfl rfl ?_; clear HE; intro a HE
              refine o_fld HE rfl rfl T.f26_0 ?_; clear HE; intro a HE
              refine o_ixA HE rfl rfl rfl T.r24 (by decide) ?_; clear HE; intro a HE
              refine o_ldA HE rfl HS rfl T.a23 (.here .here) rfl ?_; clear HE; intro a HE
              refine o_callP HE rfl HS rfl rfl T.g35 (c_said 4 (⟨p.r4.way, p.r4.size⟩ : Rul) _ _ HS.sub (by first | assumption | (constructor <;> dsimp only <;> omega))) ?_
              clear HE HS; rintro _ w a HS rfl HE
              refine o_cat HE rfl rfl rfl (by (simp; omega)) ?_; clear HE; intro a HE
              refine o_cat HE rfl rfl rfl (by (simp; omega)) ?_; clear HE; intro a HE
              refine o_assign HE rfl rfl ?_; clear HE; intro a HE
              refine hK39 _ _ ?_; clear hK39
              refine wp_region_lit ?_
              refine o_move HE rfl rfl ?_; clear HE; intro a HE
              refine o_add HE rfl rfl rfl (by omega) ?_; clear HE; intro a HE
              skip
              refine o_assign HE rfl rfl ?_; clear HE; intro a HE
              show Code.rounds _ _ _ _ _ _
              replace HE := HE.cut (L' := [(1, .pointer (some ⟨B1, 0, none⟩)), (3, str (((((((((([] ++ (saidS 0 (⟨p.r0.way, p.r0.size⟩ : Rul))) ++ [10]) ++ (saidS 1 (⟨p.r1.way, p.r1.size⟩ : Rul))) ++ [10]) ++ (saidS 2 (⟨p.r2.way, p.r2.size⟩ : Rul))) ++ [10]) ++ (saidS 3 (⟨p.r3.way, p.r3.size⟩ : Rul))) ++ [10]) ++ (saidS 4 (⟨p.r4.way, p.r4.size⟩ : Rul))) ++ [10])), (4, .int .i64 5)]) ⟨rfl, rfl, rfl, trivial⟩
              rw [rounds_succ]
              refine wp_seq_k (fun K42 hK41 => ?_)
              refine wp_seq_k (fun K hK => ?_); refine wp_region_lit ?_
              refine o_move HE rfl rfl ?_; clear HE; intro a HE
              refine o_lss HE rfl rfl rfl ?_; clear HE; intro a HE
              refine hK _ _ ?_; clear hK K
              refine cond HE rfl (fun h44 => ?_) (fun h44 => ?_)
              · exact absurd h44 (by decide)
              · have h44r := h44; try simp only [Bool.not_eq_true', Bool.not_eq_false', Bool.and_eq_true, Bool.or_eq_true, Bool.or_eq_false_iff, Bool.and_eq_false_iff, decide_eq_true_eq, decide_eq_false_iff_not, beq_iff_eq, beq_eq_false_iff_ne, ne_eq] at h44
                refine wp_exit ?_
                refine hK8 _ _ ?_; clear hK8
                refine wp_seq_k (fun K46 hK45 => ?_)
                refine wp_seq_k (fun K hK => ?_); refine wp_region_lit ?_
                refine o_fld HE rfl rfl T.f26_1 ?_; clear HE; intro a HE
                refine o_ld HE rfl HS rfl T.s3 (.here .here) rfl ?_; clear HE; intro a HE
                refine o_eqI HE rfl rfl rfl ?_; clear HE; intro a HE
                refine hK _ _ ?_; clear hK K
                refine cond HE rfl (fun h48 => ?_) (fun h48 => ?_)
                · have h48r := h48; try simp only [Bool.not_eq_true', Bool.not_eq_false', Bool.and_eq_true, Bool.or_eq_true, Bool.or_eq_false_iff, Bool.and_eq_false_iff, decide_eq_true_eq, decide_eq_false_iff_not, beq_iff_eq, beq_eq_false_iff_ne, ne_eq] at h48
                  refine wp_region_lit ?_
                  refine o_move HE rfl rfl ?_; clear HE; intro a HE
                  refine o_cat HE rfl rfl rfl (by (simp; omega)) ?_; clear HE; intro a HE
                  refine o_assign HE rfl rfl ?_; clear HE; intro a HE
                  refine hK45 _ _ ?_; clear hK45
                  refine wp_seq_k (fun K50 hK49 => ?_)
                  refine wp_seq_k (fun K hK => ?_); refine wp_region_lit ?_
                  refine o_fld HE rfl rfl T.f26_2 ?_; clear HE; intro a HE
                  refine o_ld HE rfl HS rfl T.s3 (.here .here) rfl ?_; clear HE; intro a HE
                  refine o_eqI HE rfl rfl rfl ?_; clear HE; intro a HE
                  refine hK _ _ ?_; clear hK K
                  refine cond HE rfl (fun h52 => ?_) (fun h52 => ?_)
                  · have h52r := h52; try simp only [Bool.not_eq_true', Bool.not_eq_false', Bool.and_eq_true, Bool.or_eq_true, Bool.or_eq_false_iff, Bool.and_eq_false_iff, decide_eq_true_eq, decide_eq_false_iff_not, beq_iff_eq, beq_eq_false_iff_ne, ne_eq] at h52
                    refine wp_region_lit ?_
                    refine o_move HE rfl rfl ?_; clear HE; intro a HE
                    refine o_cat HE rfl rfl rfl (by (simp; omega)) ?_; clear HE; intro a HE
                    refine o_assign HE rfl rfl ?_; clear HE; intro a HE
                    refine hK49 _ _ ?_; clear hK49
                    refine wp_seq_k (fun K54 hK53 => ?_)
                    refine wp_seq_k (fun K hK => ?_); refine wp_region_lit ?_
                    refine o_fld HE rfl rfl T.f26_3 ?_; clear HE; intro a HE
                    refine o_ld HE rfl HS rfl T.s4 (.here .here) rfl ?_; clear HE; intro a HE
                    refine hK _ _ ?_; clear hK K
                    refine cond HE rfl (fun h56 => ?_) (fun h56 => ?_)
                    · have h56r := h56; try simp only [Bool.not_eq_true', Bool.not_eq_false', Bool.and_eq_true, Bool.or_eq_true, Bool.or_eq_false_iff, Bool.and_eq_false_iff, decide_eq_true_eq, decide_eq_false_iff_not, beq_iff_eq, beq_eq_false_iff_ne, ne_eq] at h56
                      refine wp_region_lit ?_
                      refine o_move HE rfl rfl ?_; clear HE; intro a HE
                      refine o_cat HE rfl rfl rfl (by (simp; omega)) ?_; clear HE; intro a HE
                      refine o_assign HE rfl rfl ?_; clear HE; intro a HE
                      refine hK53 _ _ ?_; clear hK53
                      refine wp_seq_k (fun K58 hK57 => ?_)
                      refine wp_seq_k (fun K hK => ?_); refine wp_region_lit ?_
                      refine o_fld HE rfl rfl T.f26_4 ?_; clear HE; intro a HE
                      refine o_ld HE rfl HS rfl T.s4 (.here .here) rfl ?_; clear HE; intro a HE
                      refine hK _ _ ?_; clear hK K
                      refine cond HE rfl (fun h60 => ?_) (fun h60 => ?_)
                      · have h60r := h60; try simp only [Bool.not_eq_true', Bool.not_eq_false', Bool.and_eq_true, Bool.or_eq_true, Bool.or_eq_false_iff, Bool.and_eq_false_iff, decide_eq_true_eq, decide_eq_false_iff_not, beq_iff_eq, beq_eq_false_iff_ne, ne_eq] at h60
                        refine wp_region_lit ?_
                        refine o_move HE rfl rfl ?_; clear HE; intro a HE
                        refine o_cat HE rfl rfl rfl (by (simp; omega)) ?_; clear HE; intro a HE
                        refine o_assign HE rfl rfl ?_; clear HE; intro a HE
                        refine hK57 _ _ ?_; clear hK57
                        refine wp_seq_k (fun K hK => ?_); refine wp_region_lit ?_
                        refine o_move HE rfl rfl ?_; clear HE; intro a HE
                        refine o_assign HE rfl rfl ?_; clear HE; intro a HE
                        refine hK _ _ ?_; clear hK K
                        refine wp_ret ?_
                        show Q .ret _ _
                        refine ret hQ HE rfl (HE.res rfl .nil) ⟨_, _, HS.stop (List.nil_sublist _), rfl, ?_⟩
                        have e : printR p = ((((((((((((([] ++ (saidS 0 (⟨p.r0.way, p.r0.size⟩ : Rul))) ++ [10]) ++ (saidS 1 (⟨p.r1.way, p.r1.size⟩ : Rul))) ++ [10]) ++ (saidS 2 (⟨p.r2.way, p.r2.size⟩ : Rul))) ++ [10]) ++ (saidS 3 (⟨p.r3.way, p.r3.size⟩ : Rul))) ++ [10]) ++ (saidS 4 (⟨p.r4.way, p.r4.size⟩ : Rul))) ++ [10]) ++ [116, 105, 109, 101, 32, 107, 101, 101, 112, 10]) ++ [110, 111, 116, 101, 32, 107, 101, 101, 112, 10]) ++ [108, 111, 111, 115, 101, 10]) ++ [102, 111, 114, 99, 101, 10] := by
                          unfold printR keysP
                          rw [if_pos hp]
                          simp [sLine, ruleAt, sTK, sTR, sNK, sND, sLo, sFo, h48, h52, h56, h60]
                        show _ = _
                        rw [e]
                        rfl
                      · have h60r := h60; try simp only [Bool.not_eq_true', Bool.not_eq_false', Bool.and_eq_true, Bool.or_eq_true, Bool.or_eq_false_iff, Bool.and_eq_false_iff, decide_eq_true_eq, decide_eq_false_iff_not, beq_iff_eq, beq_eq_false_iff_ne, ne_eq] at h60
                        refine wp_skip ?_
                        refine hK57 _ _ ?_; clear hK57
                        refine wp_seq_k (fun K hK => ?_); refine wp_region_lit ?_
                        refine o_move HE rfl rfl ?_; clear HE; intro a HE
                        refine o_assign HE rfl rfl ?_; clear HE; intro a HE
                        refine hK _ _ ?_; clear hK K
                        refine wp_ret ?_
                        show Q .ret _ _
                        refine ret hQ HE rfl (HE.res rfl .nil) ⟨_, _, HS.stop (List.nil_sublist _), rfl, ?_⟩
                        have e : printR p = (((((((((((([] ++ (saidS 0 (⟨p.r0.way, p.r0.size⟩ : Rul))) ++ [10]) ++ (saidS 1 (⟨p.r1.way, p.r1.size⟩ : Rul))) ++ [10]) ++ (saidS 2 (⟨p.r2.way, p.r2.size⟩ : Rul))) ++ [10]) ++ (saidS 3 (⟨p.r3.way, p.r3.size⟩ : Rul))) ++ [10]) ++ (saidS 4 (⟨p.r4.way, p.r4.size⟩ : Rul))) ++ [10]) ++ [116, 105, 109, 101, 32, 107, 101, 101, 112, 10]) ++ [110, 111, 116, 101, 32, 107, 101, 101, 112, 10]) ++ [108, 111, 111, 115, 101, 10] := by
                          unfold printR keysP
                          rw [if_pos hp]
                          simp [sLine, ruleAt, sTK, sTR, sNK, sND, sLo, sFo, h48, h52, h56, h60]
                        show _ = _
                        rw [e]
                        rfl
                    · have h56r := h56; try simp only [Bool.not_eq_true', Bool.not_eq_false', Bool.and_eq_true, Bool.or_eq_true, Bool.or_eq_false_iff, Bool.and_eq_false_iff, decide_eq_true_eq, decide_eq_false_iff_not, beq_iff_eq, beq_eq_false_iff_ne, ne_eq] at h56
                      refine wp_skip ?_
                      refine hK53 _ _ ?_; clear hK53
                      refine wp_seq_k (fun K64 hK63 => ?_)
                      refine wp_seq_k (fun K hK => ?_); refine wp_region_lit ?_
                      refine o_fld HE rfl rfl T.f26_4 ?_; clear HE; intro a HE
                      refine o_ld HE rfl HS rfl T.s4 (.here .here) rfl ?_; clear HE; intro a HE
                      refine hK _ _ ?_; clear hK K
                      refine cond HE rfl (fun h66 => ?_) (fun h66 => ?_)
                      · have h66r := h66; try simp only [Bool.not_eq_true', Bool.not_eq_false', Bool.and_eq_true, Bool.or_eq_true, Bool.or_eq_false_iff, Bool.and_eq_false_iff, decide_eq_true_eq, decide_eq_false_iff_not, beq_iff_eq, beq_eq_false_iff_ne, ne_eq] at h66
                        refine wp_region_lit ?_
                        refine o_move HE rfl rfl ?_; clear HE; intro a HE
                        refine o_cat HE rfl rfl rfl (by (simp; omega)) ?_; clear HE; intro a HE
                        refine o_assign HE rfl rfl ?_; clear HE; intro a HE
                        refine hK63 _ _ ?_; clear hK63
                        refine wp_seq_k (fun K hK => ?_); refine wp_region_lit ?_
                        refine o_move HE rfl rfl ?_; clear HE; intro a HE
                        refine o_assign HE rfl rfl ?_; clear HE; intro a HE
                        refine hK _ _ ?_; clear hK K
                        refine wp_ret ?_
                        show Q .ret _ _
                        refine ret hQ HE rfl (HE.res rfl .nil) ⟨_, _, HS.stop (List.nil_sublist _), rfl, ?_⟩
                        have e : printR p = (((((((((((([] ++ (saidS 0 (⟨p.r0.way, p.r0.size⟩ : Rul))) ++ [10]) ++ (saidS 1 (⟨p.r1.way, p.r1.size⟩ : Rul))) ++ [10]) ++ (saidS 2 (⟨p.r2.way, p.r2.size⟩ : Rul))) ++ [10]) ++ (saidS 3 (⟨p.r3.way, p.r3.size⟩ : Rul))) ++ [10]) ++ (saidS 4 (⟨p.r4.way, p.r4.size⟩ : Rul))) ++ [10]) ++ [116, 105, 109, 101, 32, 107, 101, 101, 112, 10]) ++ [110, 111, 116, 101, 32, 107, 101, 101, 112, 10]) ++ [102, 111, 114, 99, 101, 10] := by
                          unfold printR keysP
                          rw [if_pos hp]
                          simp [sLine, ruleAt, sTK, sTR, sNK, sND, sLo, sFo, h48, h52, h56, h66]
                        show _ = _
                        rw [e]
                        rfl
                      · have h66r := h66; try simp only [Bool.not_eq_true', Bool.not_eq_false', Bool.and_eq_true, Bool.or_eq_true, Bool.or_eq_false_iff, Bool.and_eq_false_iff, decide_eq_true_eq, decide_eq_false_iff_not, beq_iff_eq, beq_eq_false_iff_ne, ne_eq] at h66
                        refine wp_skip ?_
                        refine hK63 _ _ ?_; clear hK63
                        refine wp_seq_k (fun K hK => ?_); refine wp_region_lit ?_
                        refine o_move HE rfl rfl ?_; clear HE; intro a HE
                        refine o_assign HE rfl rfl ?_; clear HE; intro a HE
                        refine hK _ _ ?_; clear hK K
                        refine wp_ret ?_
                        show Q .ret _ _
                        refine ret hQ HE rfl (HE.res rfl .nil) ⟨_, _, HS.stop (List.nil_sublist _), rfl, ?_⟩
                        have e : printR p = ((((((((((([] ++ (saidS 0 (⟨p.r0.way, p.r0.size⟩ : Rul))) ++ [10]) ++ (saidS 1 (⟨p.r1.way, p.r1.size⟩ : Rul))) ++ [10]) ++ (saidS 2 (⟨p.r2.way, p.r2.size⟩ : Rul))) ++ [10]) ++ (saidS 3 (⟨p.r3.way, p.r3.size⟩ : Rul))) ++ [10]) ++ (saidS 4 (⟨p.r4.way, p.r4.size⟩ : Rul))) ++ [10]) ++ [116, 105, 109, 101, 32, 107, 101, 101, 112, 10]) ++ [110, 111, 116, 101, 32, 107, 101, 101, 112, 10] := by
                          unfold printR keysP
                          rw [if_pos hp]
                          simp [sLine, ruleAt, sTK, sTR, sNK, sND, sLo, sFo, h48, h52, h56, h66]
                        show _ = _
                        rw [e]
                        rfl
                  · have h52r := h52; try simp only [Bool.not_eq_true', Bool.not_eq_false', Bool.and_eq_true, Bool.or_eq_true, Bool.or_eq_false_iff, Bool.and_eq_false_iff, decide_eq_true_eq, decide_eq_false_iff_not, beq_iff_eq, beq_eq_false_iff_ne, ne_eq] at h52
                    refine wp_region_lit ?_
                    refine o_move HE rfl rfl ?_; clear HE; intro a HE
                    refine o_cat HE rfl rfl rfl (by (simp; omega)) ?_; clear HE; intro a HE
                    refine o_assign HE rfl rfl ?_; clear HE; intro a HE
                    refine hK49 _ _ ?_; clear hK49
                    refine wp_seq_k (fun K70 hK69 => ?_)
                    refine wp_seq_k (fun K hK => ?_); refine wp_region_lit ?_
                    refine o_fld HE rfl rfl T.f26_3 ?_; clear HE; intro a HE
                    refine o_ld HE rfl HS rfl T.s4 (.here .here) rfl ?_; clear HE; intro a HE
                    refine hK _ _ ?_; clear hK K
                    refine cond HE rfl (fun h72 => ?_) (fun h72 => ?_)
                    · have h72r := h72; try simp only [Bool.not_eq_true', Bool.not_eq_false', Bool.and_eq_true, Bool.or_eq_true, Bool.or_eq_false_iff, Bool.and_eq_false_iff, decide_eq_true_eq, decide_eq_false_iff_not, beq_iff_eq, beq_eq_false_iff_ne, ne_eq] at h72
                      refine wp_region_lit ?_
                      refine o_move HE rfl rfl ?_; clear HE; intro a HE
                      refine o_cat HE rfl rfl rfl (by (simp; omega)) ?_; clear HE; intro a HE
                      refine o_assign HE rfl rfl ?_; clear HE; intro a HE
                      refine hK69 _ _ ?_; clear hK69
                      refine wp_seq_k (fun K74 hK73 => ?_)
                      refine wp_seq_k (fun K hK => ?_); refine wp_region_lit ?_
                      refine o_fld HE rfl rfl T.f26_4 ?_; clear HE; intro a HE
                      refine o_ld HE rfl HS rfl T.s4 (.here .here) rfl ?_; clear HE; intro a HE
                      refine hK _ _ ?_; clear hK K
                      refine cond HE rfl (fun h76 => ?_) (fun h76 => ?_)
                      · have h76r := h76; try simp only [Bool.not_eq_true', Bool.not_eq_false', Bool.and_eq_true, Bool.or_eq_true, Bool.or_eq_false_iff, Bool.and_eq_false_iff, decide_eq_true_eq, decide_eq_false_iff_not, beq_iff_eq, beq_eq_false_iff_ne, ne_eq] at h76
                        refine wp_region_lit ?_
                        refine o_move HE rfl rfl ?_; clear HE; intro a HE
                        refine o_cat HE rfl rfl rfl (by (simp; omega)) ?_; clear HE; intro a HE
                        refine o_assign HE rfl rfl ?_; clear HE; intro a HE
                        refine hK73 _ _ ?_; clear hK73
                        refine wp_seq_k (fun K hK => ?_); refine wp_region_lit ?_
                        refine o_move HE rfl rfl ?_; clear HE; intro a HE
                        refine o_assign HE rfl rfl ?_; clear HE; intro a HE
                        refine hK _ _ ?_; clear hK K
                        refine wp_ret ?_
                        show Q .ret _ _
                        refine ret hQ HE rfl (HE.res rfl .nil) ⟨_, _, HS.stop (List.nil_sublist _), rfl, ?_⟩
                        have e : printR p = ((((((((((((([] ++ (saidS 0 (⟨p.r0.way, p.r0.size⟩ : Rul))) ++ [10]) ++ (saidS 1 (⟨p.r1.way, p.r1.size⟩ : Rul))) ++ [10]) ++ (saidS 2 (⟨p.r2.way, p.r2.size⟩ : Rul))) ++ [10]) ++ (saidS 3 (⟨p.r3.way, p.r3.size⟩ : Rul))) ++ [10]) ++ (saidS 4 (⟨p.r4.way, p.r4.size⟩ : Rul))) ++ [10]) ++ [116, 105, 109, 101, 32, 107, 101, 101, 112, 10]) ++ [110, 111, 116, 101, 32, 100, 114, 111, 112, 10]) ++ [108, 111, 111, 115, 101, 10]) ++ [102, 111, 114, 99, 101, 10] := by
                          unfold printR keysP
                          rw [if_pos hp]
                          simp [sLine, ruleAt, sTK, sTR, sNK, sND, sLo, sFo, h48, h52, h72, h76]
                        show _ = _
                        rw [e]
                        rfl
                      · have h76r := h76; try simp only [Bool.not_eq_true', Bool.not_eq_false', Bool.and_eq_true, Bool.or_eq_true, Bool.or_eq_false_iff, Bool.and_eq_false_iff, decide_eq_true_eq, decide_eq_false_iff_not, beq_iff_eq, beq_eq_false_iff_ne, ne_eq] at h76
                        refine wp_skip ?_
                        refine hK73 _ _ ?_; clear hK73
                        refine wp_seq_k (fun K hK => ?_); refine wp_region_lit ?_
                        refine o_move HE rfl rfl ?_; clear HE; intro a HE
                        refine o_assign HE rfl rfl ?_; clear HE; intro a HE
                        refine hK _ _ ?_; clear hK K
                        refine wp_ret ?_
                        show Q .ret _ _
                        refine ret hQ HE rfl (HE.res rfl .nil) ⟨_, _, HS.stop (List.nil_sublist _), rfl, ?_⟩
                        have e : printR p = (((((((((((([] ++ (saidS 0 (⟨p.r0.way, p.r0.size⟩ : Rul))) ++ [10]) ++ (saidS 1 (⟨p.r1.way, p.r1.size⟩ : Rul))) ++ [10]) ++ (saidS 2 (⟨p.r2.way, p.r2.size⟩ : Rul))) ++ [10]) ++ (saidS 3 (⟨p.r3.way, p.r3.size⟩ : Rul))) ++ [10]) ++ (saidS 4 (⟨p.r4.way, p.r4.size⟩ : Rul))) ++ [10]) ++ [116, 105, 109, 101, 32, 107, 101, 101, 112, 10]) ++ [110, 111, 116, 101, 32, 100, 114, 111, 112, 10]) ++ [108, 111, 111, 115, 101, 10] := by
                          unfold printR keysP
                          rw [if_pos hp]
                          simp [sLine, ruleAt, sTK, sTR, sNK, sND, sLo, sFo, h48, h52, h72, h76]
                        show _ = _
                        rw [e]
                        rfl
                    · have h72r := h72; try simp only [Bool.not_eq_true', Bool.not_eq_false', Bool.and_eq_true, Bool.or_eq_true, Bool.or_eq_false_iff, Bool.and_eq_false_iff, decide_eq_true_eq, decide_eq_false_iff_not, beq_iff_eq, beq_eq_false_iff_ne, ne_eq] at h72
                      refine wp_skip ?_
                      refine hK69 _ _ ?_; clear hK69
                      refine wp_seq_k (fun K80 hK79 => ?_)
                      refine wp_seq_k (fun K hK => ?_); refine wp_region_lit ?_
                      refine o_fld HE rfl rfl T.f26_4 ?_; clear HE; intro a HE
                      refine o_ld HE rfl HS rfl T.s4 (.here .here) rfl ?_; clear HE; intro a HE
                      refine hK _ _ ?_; clear hK K
                      refine cond HE rfl (fun h82 => ?_) (fun h82 => ?_)
                      · have h82r := h82; try simp only [Bool.not_eq_true', Bool.not_eq_false', Bool.and_eq_true, Bool.or_eq_true, Bool.or_eq_false_iff, Bool.and_eq_false_iff, decide_eq_true_eq, decide_eq_false_iff_not, beq_iff_eq, beq_eq_false_iff_ne, ne_eq] at h82
                        refine wp_region_lit ?_
                        refine o_move HE rfl rfl ?_; clear HE; intro a HE
                        refine o_cat HE rfl rfl rfl (by (simp; omega)) ?_; clear HE; intro a HE
                        refine o_assign HE rfl rfl ?_; clear HE; intro a HE
                        refine hK79 _ _ ?_; clear hK79
                        refine wp_seq_k (fun K hK => ?_); refine wp_region_lit ?_
                        refine o_move HE rfl rfl ?_; clear HE; intro a HE
                        refine o_assign HE rfl rfl ?_; clear HE; intro a HE
                        refine hK _ _ ?_; clear hK K
                        refine wp_ret ?_
                        show Q .ret _ _
                        refine ret hQ HE rfl (HE.res rfl .nil) ⟨_, _, HS.stop (List.nil_sublist _), rfl, ?_⟩
                        have e : printR p = (((((((((((([] ++ (saidS 0 (⟨p.r0.way, p.r0.size⟩ : Rul))) ++ [10]) ++ (saidS 1 (⟨p.r1.way, p.r1.size⟩ : Rul))) ++ [10]) ++ (saidS 2 (⟨p.r2.way, p.r2.size⟩ : Rul))) ++ [10]) ++ (saidS 3 (⟨p.r3.way, p.r3.size⟩ : Rul))) ++ [10]) ++ (saidS 4 (⟨p.r4.way, p.r4.size⟩ : Rul))) ++ [10]) ++ [116, 105, 109, 101, 32, 107, 101, 101, 112, 10]) ++ [110, 111, 116, 101, 32, 100, 114, 111, 112, 10]) ++ [102, 111, 114, 99, 101, 10] := by
                          unfold printR keysP
                          rw [if_pos hp]
                          simp [sLine, ruleAt, sTK, sTR, sNK, sND, sLo, sFo, h48, h52, h72, h82]
                        show _ = _
                        rw [e]
                        rfl
                      · have h82r := h82; try simp only [Bool.not_eq_true', Bool.not_eq_false', Bool.and_eq_true, Bool.or_eq_true, Bool.or_eq_false_iff, Bool.and_eq_false_iff, decide_eq_true_eq, decide_eq_false_iff_not, beq_iff_eq, beq_eq_false_iff_ne, ne_eq] at h82
                        refine wp_skip ?_
                        refine hK79 _ _ ?_; clear hK79
                        refine wp_seq_k (fun K hK => ?_); refine wp_region_lit ?_
                        refine o_move HE rfl rfl ?_; clear HE; intro a HE
                        refine o_assign HE rfl rfl ?_; clear HE; intro a HE
                        refine hK _ _ ?_; clear hK K
                        refine wp_ret ?_
                        show Q .ret _ _
                        refine ret hQ HE rfl (HE.res rfl .nil) ⟨_, _, HS.stop (List.nil_sublist _), rfl, ?_⟩
                        have e : printR p = ((((((((((([] ++ (saidS 0 (⟨p.r0.way, p.r0.size⟩ : Rul))) ++ [10]) ++ (saidS 1 (⟨p.r1.way, p.r1.size⟩ : Rul))) ++ [10]) ++ (saidS 2 (⟨p.r2.way, p.r2.size⟩ : Rul))) ++ [10]) ++ (saidS 3 (⟨p.r3.way, p.r3.size⟩ : Rul))) ++ [10]) ++ (saidS 4 (⟨p.r4.way, p.r4.size⟩ : Rul))) ++ [10]) ++ [116, 105, 109, 101, 32, 107, 101, 101, 112, 10]) ++ [110, 111, 116, 101, 32, 100, 114, 111, 112, 10] := by
                          unfold printR keysP
                          rw [if_pos hp]
                          simp [sLine, ruleAt, sTK, sTR, sNK, sND, sLo, sFo, h48, h52, h72, h82]
                        show _ = _
                        rw [e]
                        rfl
                · have h48r := h48; try simp only [Bool.not_eq_true', Bool.not_eq_false', Bool.and_eq_true, Bool.or_eq_true, Bool.or_eq_false_iff, Bool.and_eq_false_iff, decide_eq_true_eq, decide_eq_false_iff_not, beq_iff_eq, beq_eq_false_iff_ne, ne_eq] at h48
                  refine wp_region_lit ?_
                  refine o_move HE rfl rfl ?_; clear HE; intro a HE
                  refine o_cat HE rfl rfl rfl (by (simp; omega)) ?_; clear HE; intro a HE
                  refine o_assign HE rfl rfl ?_; clear HE; intro a HE
                  refine hK45 _ _ ?_; clear hK45
                  refine wp_seq_k (fun K86 hK85 => ?_)
                  refine wp_seq_k (fun K hK => ?_); refine wp_region_lit ?_
                  refine o_fld HE rfl rfl T.f26_2 ?_; clear HE; intro a HE
                  refine o_ld HE rfl HS rfl T.s3 (.here .here) rfl ?_; clear HE; intro a HE
                  refine o_eqI HE rfl rfl rfl ?_; clear HE; intro a HE
                  refine hK _ _ ?_; clear hK K
                  refine cond HE rfl (fun h88 => ?_) (fun h88 => ?_)
                  · have h88r := h88; try simp only [Bool.not_eq_true', Bool.not_eq_false', Bool.and_eq_true, Bool.or_eq_true, Bool.or_eq_false_iff, Bool.and_eq_false_iff, decide_eq_true_eq, decide_eq_false_iff_not, beq_iff_eq, beq_eq_false_iff_ne, ne_eq] at h88
                    refine wp_region_lit ?_
                    refine o_move HE rfl rfl ?_; clear HE; intro a HE
                    refine o_cat HE rfl rfl rfl (by (simp; omega)) ?_; clear HE; intro a HE
                    refine o_assign HE rfl rfl ?_; clear HE; intro a HE
                    refine hK85 _ _ ?_; clear hK85
                    refine wp_seq_k (fun K90 hK89 => ?_)
                    refine wp_seq_k (fun K hK => ?_); refine wp_region_lit ?_
                    refine o_fld HE rfl rfl T.f26_3 ?_; clear HE; intro a HE
                    refine o_ld HE rfl HS rfl T.s4 (.here .here) rfl ?_; clear HE; intro a HE
                    refine hK _ _ ?_; clear hK K
                    refine cond HE rfl (fun h92 => ?_) (fun h92 => ?_)
                    · have h92r := h92; try simp only [Bool.not_eq_true', Bool.not_eq_false', Bool.and_eq_true, Bool.or_eq_true, Bool.or_eq_false_iff, Bool.and_eq_false_iff, decide_eq_true_eq, decide_eq_false_iff_not, beq_iff_eq, beq_eq_false_iff_ne, ne_eq] at h92
                      refine wp_region_lit ?_
                      refine o_move HE rfl rfl ?_; clear HE; intro a HE
                      refine o_cat HE rfl rfl rfl (by (simp; omega)) ?_; clear HE; intro a HE
                      refine o_assign HE rfl rfl ?_; clear HE; intro a HE
                      refine hK89 _ _ ?_; clear hK89
                      refine wp_seq_k (fun K94 hK93 => ?_)
                      refine wp_seq_k (fun K hK => ?_); refine wp_region_lit ?_
                      refine o_fld HE rfl rfl T.f26_4 ?_; clear HE; intro a HE
                      refine o_ld HE rfl HS rfl T.s4 (.here .here) rfl ?_; clear HE; intro a HE
                      refine hK _ _ ?_; clear hK K
                      refine cond HE rfl (fun h96 => ?_) (fun h96 => ?_)
                      · have h96r := h96; try simp only [Bool.not_eq_true', Bool.not_eq_false', Bool.and_eq_true, Bool.or_eq_true, Bool.or_eq_false_iff, Bool.and_eq_false_iff, decide_eq_true_eq, decide_eq_false_iff_not, beq_iff_eq, beq_eq_false_iff_ne, ne_eq] at h96
                        refine wp_region_lit ?_
                        refine o_move HE rfl rfl ?_; clear HE; intro a HE
                        refine o_cat HE rfl rfl rfl (by (simp; omega)) ?_; clear HE; intro a HE
                        refine o_assign HE rfl rfl ?_; clear HE; intro a HE
                        refine hK93 _ _ ?_; clear hK93
                        refine wp_seq_k (fun K hK => ?_); refine wp_region_lit ?_
                        refine o_move HE rfl rfl ?_; clear HE; intro a HE
                        refine o_assign HE rfl rfl ?_; clear HE; intro a HE
                        refine hK _ _ ?_; clear hK K
                        refine wp_ret ?_
                        show Q .ret _ _
                        refine ret hQ HE rfl (HE.res rfl .nil) ⟨_, _, HS.stop (List.nil_sublist _), rfl, ?_⟩
                        have e : printR p = ((((((((((((([] ++ (saidS 0 (⟨p.r0.way, p.r0.size⟩ : Rul))) ++ [10]) ++ (saidS 1 (⟨p.r1.way, p.r1.size⟩ : Rul))) ++ [10]) ++ (saidS 2 (⟨p.r2.way, p.r2.size⟩ : Rul))) ++ [10]) ++ (saidS 3 (⟨p.r3.way, p.r3.size⟩ : Rul))) ++ [10]) ++ (saidS 4 (⟨p.r4.way, p.r4.size⟩ : Rul))) ++ [10]) ++ [116, 105, 109, 101, 32, 114, 97, 110, 107, 10]) ++ [110, 111, 116, 101, 32, 107, 101, 101, 112, 10]) ++ [108, 111, 111, 115, 101, 10]) ++ [102, 111, 114, 99, 101, 10] := by
                          unfold printR keysP
                          rw [if_pos hp]
                          simp [sLine, ruleAt, sTK, sTR, sNK, sND, sLo, sFo, h48, h88, h92, h96]
                        show _ = _
                        rw [e]
                        rfl
                      · have h96r := h96; try simp only [Bool.not_eq_true', Bool.not_eq_false', Bool.and_eq_true, Bool.or_eq_true, Bool.or_eq_false_iff, Bool.and_eq_false_iff, decide_eq_true_eq, decide_eq_false_iff_not, beq_iff_eq, beq_eq_false_iff_ne, ne_eq] at h96
                        refine wp_skip ?_
                        refine hK93 _ _ ?_; clear hK93
                        refine wp_seq_k (fun K hK => ?_); refine wp_region_lit ?_
                        refine o_move HE rfl rfl ?_; clear HE; intro a HE
                        refine o_assign HE rfl rfl ?_; clear HE; intro a HE
                        refine hK _ _ ?_; clear hK K
                        refine wp_ret ?_
                        show Q .ret _ _
                        refine ret hQ HE rfl (HE.res rfl .nil) ⟨_, _, HS.stop (List.nil_sublist _), rfl, ?_⟩
                        have e : printR p = (((((((((((([] ++ (saidS 0 (⟨p.r0.way, p.r0.size⟩ : Rul))) ++ [10]) ++ (saidS 1 (⟨p.r1.way, p.r1.size⟩ : Rul))) ++ [10]) ++ (saidS 2 (⟨p.r2.way, p.r2.size⟩ : Rul))) ++ [10]) ++ (saidS 3 (⟨p.r3.way, p.r3.size⟩ : Rul))) ++ [10]) ++ (saidS 4 (⟨p.r4.way, p.r4.size⟩ : Rul))) ++ [10]) ++ [116, 105, 109, 101, 32, 114, 97, 110, 107, 10]) ++ [110, 111, 116, 101, 32, 107, 101, 101, 112, 10]) ++ [108, 111, 111, 115, 101, 10] := by
                          unfold printR keysP
                          rw [if_pos hp]
                          simp [sLine, ruleAt, sTK, sTR, sNK, sND, sLo, sFo, h48, h88, h92, h96]
                        show _ = _
                        rw [e]
                        rfl
                    · have h92r := h92; try simp only [Bool.not_eq_true', Bool.not_eq_false', Bool.and_eq_true, Bool.or_eq_true, Bool.or_eq_false_iff, Bool.and_eq_false_iff, decide_eq_true_eq, decide_eq_false_iff_not, beq_iff_eq, beq_eq_false_iff_ne, ne_eq] at h92
                      refine wp_skip ?_
                      refine hK89 _ _ ?_; clear hK89
                      refine wp_seq_k (fun K100 hK99 => ?_)
                      refine wp_seq_k (fun K hK => ?_); refine wp_region_lit ?_
                      refine o_fld HE rfl rfl T.f26_4 ?_; clear HE; intro a HE
                      refine o_ld HE rfl HS rfl T.s4 (.here .here) rfl ?_; clear HE; intro a HE
                      refine hK _ _ ?_; clear hK K
                      refine cond HE rfl (fun h102 => ?_) (fun h102 => ?_)
                      · have h102r := h102; try simp only [Bool.not_eq_true', Bool.not_eq_false', Bool.and_eq_true, Bool.or_eq_true, Bool.or_eq_false_iff, Bool.and_eq_false_iff, decide_eq_true_eq, decide_eq_false_iff_not, beq_iff_eq, beq_eq_false_iff_ne, ne_eq] at h102
                        refine wp_region_lit ?_
                        refine o_move HE rfl rfl ?_; clear HE; intro a HE
                        refine o_cat HE rfl rfl rfl (by (simp; omega)) ?_; clear HE; intro a HE
                        refine o_assign HE rfl rfl ?_; clear HE; intro a HE
                        refine hK99 _ _ ?_; clear hK99
                        refine wp_seq_k (fun K hK => ?_); refine wp_region_lit ?_
                        refine o_move HE rfl rfl ?_; clear HE; intro a HE
                        refine o_assign HE rfl rfl ?_; clear HE; intro a HE
                        refine hK _ _ ?_; clear hK K
                        refine wp_ret ?_
                        show Q .ret _ _
                        refine ret hQ HE rfl (HE.res rfl .nil) ⟨_, _, HS.stop (List.nil_sublist _), rfl, ?_⟩
                        have e : printR p = (((((((((((([] ++ (saidS 0 (⟨p.r0.way, p.r0.size⟩ : Rul))) ++ [10]) ++ (saidS 1 (⟨p.r1.way, p.r1.size⟩ : Rul))) ++ [10]) ++ (saidS 2 (⟨p.r2.way, p.r2.size⟩ : Rul))) ++ [10]) ++ (saidS 3 (⟨p.r3.way, p.r3.size⟩ : Rul))) ++ [10]) ++ (saidS 4 (⟨p.r4.way, p.r4.size⟩ : Rul))) ++ [10]) ++ [116, 105, 109, 101, 32, 114, 97, 110, 107, 10]) ++ [110, 111, 116, 101, 32, 107, 101, 101, 112, 10]) ++ [102, 111, 114, 99, 101, 10] := by
                          unfold printR keysP
                          rw [if_pos hp]
                          simp [sLine, ruleAt, sTK, sTR, sNK, sND, sLo, sFo, h48, h88, h92, h102]
                        show _ = _
                        rw [e]
                        rfl
                      · have h102r := h102; try simp only [Bool.not_eq_true', Bool.not_eq_false', Bool.and_eq_true, Bool.or_eq_true, Bool.or_eq_false_iff, Bool.and_eq_false_iff, decide_eq_true_eq, decide_eq_false_iff_not, beq_iff_eq, beq_eq_false_iff_ne, ne_eq] at h102
                        refine wp_skip ?_
                        refine hK99 _ _ ?_; clear hK99
                        refine wp_seq_k (fun K hK => ?_); refine wp_region_lit ?_
                        refine o_move HE rfl rfl ?_; clear HE; intro a HE
                        refine o_assign HE rfl rfl ?_; clear HE; intro a HE
                        refine hK _ _ ?_; clear hK K
                        refine wp_ret ?_
                        show Q .ret _ _
                        refine ret hQ HE rfl (HE.res rfl .nil) ⟨_, _, HS.stop (List.nil_sublist _), rfl, ?_⟩
                        have e : printR p = ((((((((((([] ++ (saidS 0 (⟨p.r0.way, p.r0.size⟩ : Rul))) ++ [10]) ++ (saidS 1 (⟨p.r1.way, p.r1.size⟩ : Rul))) ++ [10]) ++ (saidS 2 (⟨p.r2.way, p.r2.size⟩ : Rul))) ++ [10]) ++ (saidS 3 (⟨p.r3.way, p.r3.size⟩ : Rul))) ++ [10]) ++ (saidS 4 (⟨p.r4.way, p.r4.size⟩ : Rul))) ++ [10]) ++ [116, 105, 109, 101, 32, 114, 97, 110, 107, 10]) ++ [110, 111, 116, 101, 32, 107, 101, 101, 112, 10] := by
                          unfold printR keysP
                          rw [if_pos hp]
                          simp [sLine, ruleAt, sTK, sTR, sNK, sND, sLo, sFo, h48, h88, h92, h102]
                        show _ = _
                        rw [e]
                        rfl
                  · have h88r := h88; try simp only [Bool.not_eq_true', Bool.not_eq_false', Bool.and_eq_true, Bool.or_eq_true, Bool.or_eq_false_iff, Bool.and_eq_false_iff, decide_eq_true_eq, decide_eq_false_iff_not, beq_iff_eq, beq_eq_false_iff_ne, ne_eq] at h88
                    refine wp_region_lit ?_
                    refine o_move HE rfl rfl ?_; clear HE; intro a HE
                    refine o_cat HE rfl rfl rfl (by (simp; omega)) ?_; clear HE; intro a HE
                    refine o_assign HE rfl rfl ?_; clear HE; intro a HE
                    refine hK85 _ _ ?_; clear hK85
                    refine wp_seq_k (fun K106 hK105 => ?_)
                    refine wp_seq_k (fun K hK => ?_); refine wp_region_lit ?_
                    refine o_fld HE rfl rfl T.f26_3 ?_; clear HE; intro a HE
                    refine o_ld HE rfl HS rfl T.s4 (.here .here) rfl ?_; clear HE; intro a HE
                    refine hK _ _ ?_; clear hK K
                    refine cond HE rfl (fun h108 => ?_) (fun h108 => ?_)
                    · have h108r := h108; try simp only [Bool.not_eq_true', Bool.not_eq_false', Bool.and_eq_true, Bool.or_eq_true, Bool.or_eq_false_iff, Bool.and_eq_false_iff, decide_eq_true_eq, decide_eq_false_iff_not, beq_iff_eq, beq_eq_false_iff_ne, ne_eq] at h108
                      refine wp_region_lit ?_
                      refine o_move HE rfl rfl ?_; clear HE; intro a HE
                      refine o_cat HE rfl rfl rfl (by (simp; omega)) ?_; clear HE; intro a HE
                      refine o_assign HE rfl rfl ?_; clear HE; intro a HE
                      refine hK105 _ _ ?_; clear hK105
                      refine wp_seq_k (fun K110 hK109 => ?_)
                      refine wp_seq_k (fun K hK => ?_); refine wp_region_lit ?_
                      refine o_fld HE rfl rfl T.f26_4 ?_; clear HE; intro a HE
                      refine o_ld HE rfl HS rfl T.s4 (.here .here) rfl ?_; clear HE; intro a HE
                      refine hK _ _ ?_; clear hK K
                      refine cond HE rfl (fun h112 => ?_) (fun h112 => ?_)
                      · have h112r := h112; try simp only [Bool.not_eq_true', Bool.not_eq_false', Bool.and_eq_true, Bool.or_eq_true, Bool.or_eq_false_iff, Bool.and_eq_false_iff, decide_eq_true_eq, decide_eq_false_iff_not, beq_iff_eq, beq_eq_false_iff_ne, ne_eq] at h112
                        refine wp_region_lit ?_
                        refine o_move HE rfl rfl ?_; clear HE; intro a HE
                        refine o_cat HE rfl rfl rfl (by (simp; omega)) ?_; clear HE; intro a HE
                        refine o_assign HE rfl rfl ?_; clear HE; intro a HE
                        refine hK109 _ _ ?_; clear hK109
                        refine wp_seq_k (fun K hK => ?_); refine wp_region_lit ?_
                        refine o_move HE rfl rfl ?_; clear HE; intro a HE
                        refine o_assign HE rfl rfl ?_; clear HE; intro a HE
                        refine hK _ _ ?_; clear hK K
                        refine wp_ret ?_
                        show Q .ret _ _
                        refine ret hQ HE rfl (HE.res rfl .nil) ⟨_, _, HS.stop (List.nil_sublist _), rfl, ?_⟩
                        have e : printR p = ((((((((((((([] ++ (saidS 0 (⟨p.r0.way, p.r0.size⟩ : Rul))) ++ [10]) ++ (saidS 1 (⟨p.r1.way, p.r1.size⟩ : Rul))) ++ [10]) ++ (saidS 2 (⟨p.r2.way, p.r2.size⟩ : Rul))) ++ [10]) ++ (saidS 3 (⟨p.r3.way, p.r3.size⟩ : Rul))) ++ [10]) ++ (saidS 4 (⟨p.r4.way, p.r4.size⟩ : Rul))) ++ [10]) ++ [116, 105, 109, 101, 32, 114, 97, 110, 107, 10]) ++ [110, 111, 116, 101, 32, 100, 114, 111, 112, 10]) ++ [108, 111, 111, 115, 101, 10]) ++ [102, 111, 114, 99, 101, 10] := by
                          unfold printR keysP
                          rw [if_pos hp]
                          simp [sLine, ruleAt, sTK, sTR, sNK, sND, sLo, sFo, h48, h88, h108, h112]
                        show _ = _
                        rw [e]
                        rfl
                      · have h112r := h112; try simp only [Bool.not_eq_true', Bool.not_eq_false', Bool.and_eq_true, Bool.or_eq_true, Bool.or_eq_false_iff, Bool.and_eq_false_iff, decide_eq_true_eq, decide_eq_false_iff_not, beq_iff_eq, beq_eq_false_iff_ne, ne_eq] at h112
                        refine wp_skip ?_
                        refine hK109 _ _ ?_; clear hK109
                        refine wp_seq_k (fun K hK => ?_); refine wp_region_lit ?_
                        refine o_move HE rfl rfl ?_; clear HE; intro a HE
                        refine o_assign HE rfl rfl ?_; clear HE; intro a HE
                        refine hK _ _ ?_; clear hK K
                        refine wp_ret ?_
                        show Q .ret _ _
                        refine ret hQ HE rfl (HE.res rfl .nil) ⟨_, _, HS.stop (List.nil_sublist _), rfl, ?_⟩
                        have e : printR p = (((((((((((([] ++ (saidS 0 (⟨p.r0.way, p.r0.size⟩ : Rul))) ++ [10]) ++ (saidS 1 (⟨p.r1.way, p.r1.size⟩ : Rul))) ++ [10]) ++ (saidS 2 (⟨p.r2.way, p.r2.size⟩ : Rul))) ++ [10]) ++ (saidS 3 (⟨p.r3.way, p.r3.size⟩ : Rul))) ++ [10]) ++ (saidS 4 (⟨p.r4.way, p.r4.size⟩ : Rul))) ++ [10]) ++ [116, 105, 109, 101, 32, 114, 97, 110, 107, 10]) ++ [110, 111, 116, 101, 32, 100, 114, 111, 112, 10]) ++ [108, 111, 111, 115, 101, 10] := by
                          unfold printR keysP
                          rw [if_pos hp]
                          simp [sLine, ruleAt, sTK, sTR, sNK, sND, sLo, sFo, h48, h88, h108, h112]
                        show _ = _
                        rw [e]
                        rfl
                    · have h108r := h108; try simp only [Bool.not_eq_true', Bool.not_eq_false', Bool.and_eq_true, Bool.or_eq_true, Bool.or_eq_false_iff, Bool.and_eq_false_iff, decide_eq_true_eq, decide_eq_false_iff_not, beq_iff_eq, beq_eq_false_iff_ne, ne_eq] at h108
                      refine wp_skip ?_
                      refine hK105 _ _ ?_; clear hK105
                      refine wp_seq_k (fun K116 hK115 => ?_)
                      refine wp_seq_k (fun K hK => ?_); refine wp_region_lit ?_
                      refine o_fld HE rfl rfl T.f26_4 ?_; clear HE; intro a HE
                      refine o_ld HE rfl HS rfl T.s4 (.here .here) rfl ?_; clear HE; intro a HE
                      refine hK _ _ ?_; clear hK K
                      refine cond HE rfl (fun h118 => ?_) (fun h118 => ?_)
                      · have h118r := h118; try simp only [Bool.not_eq_true', Bool.not_eq_false', Bool.and_eq_true, Bool.or_eq_true, Bool.or_eq_false_iff, Bool.and_eq_false_iff, decide_eq_true_eq, decide_eq_false_iff_not, beq_iff_eq, beq_eq_false_iff_ne, ne_eq] at h118
                        refine wp_region_lit ?_
                        refine o_move HE rfl rfl ?_; clear HE; intro a HE
                        refine o_cat HE rfl rfl rfl (by (simp; omega)) ?_; clear HE; intro a HE
                        refine o_assign HE rfl rfl ?_; clear HE; intro a HE
                        refine hK115 _ _ ?_; clear hK115
                        refine wp_seq_k (fun K hK => ?_); refine wp_region_lit ?_
                        refine o_move HE rfl rfl ?_; clear HE; intro a HE
                        refine o_assign HE rfl rfl ?_; clear HE; intro a HE
                        refine hK _ _ ?_; clear hK K
                        refine wp_ret ?_
                        show Q .ret _ _
                        refine ret hQ HE rfl (HE.res rfl .nil) ⟨_, _, HS.stop (List.nil_sublist _), rfl, ?_⟩
                        have e : printR p = (((((((((((([] ++ (saidS 0 (⟨p.r0.way, p.r0.size⟩ : Rul))) ++ [10]) ++ (saidS 1 (⟨p.r1.way, p.r1.size⟩ : Rul))) ++ [10]) ++ (saidS 2 (⟨p.r2.way, p.r2.size⟩ : Rul))) ++ [10]) ++ (saidS 3 (⟨p.r3.way, p.r3.size⟩ : Rul))) ++ [10]) ++ (saidS 4 (⟨p.r4.way, p.r4.size⟩ : Rul))) ++ [10]) ++ [116, 105, 109, 101, 32, 114, 97, 110, 107, 10]) ++ [110, 111, 116, 101, 32, 100, 114, 111, 112, 10]) ++ [102, 111, 114, 99, 101, 10] := by
                          unfold printR keysP
                          rw [if_pos hp]
                          simp [sLine, ruleAt, sTK, sTR, sNK, sND, sLo, sFo, h48, h88, h108, h118]
                        show _ = _
                        rw [e]
                        rfl
                      · have h118r := h118; try simp only [Bool.not_eq_true', Bool.not_eq_false', Bool.and_eq_true, Bool.or_eq_true, Bool.or_eq_false_iff, Bool.and_eq_false_iff, decide_eq_true_eq, decide_eq_false_iff_not, beq_iff_eq, beq_eq_false_iff_ne, ne_eq] at h118
                        refine wp_skip ?_
                        refine hK115 _ _ ?_; clear hK115
                        refine wp_seq_k (fun K hK => ?_); refine wp_region_lit ?_
                        refine o_move HE rfl rfl ?_; clear HE; intro a HE
                        refine o_assign HE rfl rfl ?_; clear HE; intro a HE
                        refine hK _ _ ?_; clear hK K
                        refine wp_ret ?_
                        show Q .ret _ _
                        refine ret hQ HE rfl (HE.res rfl .nil) ⟨_, _, HS.stop (List.nil_sublist _), rfl, ?_⟩
                        have e : printR p = ((((((((((([] ++ (saidS 0 (⟨p.r0.way, p.r0.size⟩ : Rul))) ++ [10]) ++ (saidS 1 (⟨p.r1.way, p.r1.size⟩ : Rul))) ++ [10]) ++ (saidS 2 (⟨p.r2.way, p.r2.size⟩ : Rul))) ++ [10]) ++ (saidS 3 (⟨p.r3.way, p.r3.size⟩ : Rul))) ++ [10]) ++ (saidS 4 (⟨p.r4.way, p.r4.size⟩ : Rul))) ++ [10]) ++ [116, 105, 109, 101, 32, 114, 97, 110, 107, 10]) ++ [110, 111, 116, 101, 32, 100, 114, 111, 112, 10] := by
                          unfold printR keysP
                          rw [if_pos hp]
                          simp [sLine, ruleAt, sTK, sTR, sNK, sND, sLo, sFo, h48, h88, h108, h118]
                        show _ = _
                        rw [e]
                        rfl
            · exact absurd h38 (by decide)
          · exact absurd h32 (by decide)
        · exact absurd h26 (by decide)
      · exact absurd h20 (by decide)
    · exact absurd h14 (by decide)

/-! `incognito/incognitolaw25.PolicyTurns` -/
set_option maxRecDepth 100000 in
set_option maxHeartbeats 4000000 in
theorem law_PolicyTurns (p : Pol) (ta tb : Int) (w0 : World) (G : Heap) (hG : Sub G w0) (m8 : Int) (h8 : CellsAt G 8 0 [.int .i64 m8]) (hgw : CellsAt G 1 0 [str [107, 101, 101, 112], str [111, 114, 100, 105, 110, 97, 108], str [107, 101, 121, 101, 100], str [114, 97, 110, 107], str [100, 114, 111, 112]]) (hgd : CellsAt G 0 0 [str [99, 108, 105, 101, 110, 116], str [111, 98, 106, 101, 99, 116], str [118, 97, 108, 117, 101], str [102, 105, 101, 108, 100], str [111, 114, 100, 101, 114]]) (ha : 0 ≤ ta ∧ ta < 256) (hb : 0 ≤ tb ∧ tb < 256):
    Calls Tryd.prog 3 #[.agg #[.int .i64 p.r0.way, .int .i64 p.r0.size, .int .i64 p.r1.way, .int .i64 p.r1.size, .int .i64 p.r2.way, .int .i64 p.r2.size, .int .i64 p.r3.way, .int .i64 p.r3.size, .int .i64 p.r4.way, .int .i64 p.r4.size, .int .i64 p.time, .int .i64 p.note, .bool p.loose, .bool p.force], .int .u8 ta, .int .u8 tb] w0 (Ret w0 G (fun v _ => v = .bool true)) := by
  refine enter Tryd.func3 rfl Tryd.ntmps3 rfl ?_
  intro Q hQ a HE
  have HS := St.start0 hG
  refine wp_seq_k (fun K hK => ?_); refine wp_region_lit ?_
  refine o_boxL [(0, _), (1, _), (2, _), (3, _), (4, _), (5, _), (6, _), (7, _), (8, _), (9, _), (10, _), (11, _), (12, _), (13, _)] HE rfl HS rfl ⟨rfl, rfl, rfl, rfl, rfl, rfl, rfl, rfl, rfl, rfl, rfl, rfl, rfl, rfl, trivial⟩ ?_; clear HE HS; intro B3 w a HS HE
  refine o_assign HE rfl rfl ?_; clear HE; intro a HE
  refine hK _ _ ?_; clear hK K
  refine wp_seq_k (fun K3 hK2 => ?_)
  refine wp_seq_k (fun K hK => ?_); refine wp_region_lit ?_
  refine o_callP HE rfl HS rfl rfl T.g14 (c_wakes25 _ _ HS.sub m8 h8 hgw hgd) ?_
  clear HE HS; rintro _ w a HS rfl HE
  refine o_not HE rfl rfl ?_; clear HE; intro a HE
  refine hK _ _ ?_; clear hK K
  refine cond HE rfl (fun h5 => ?_) (fun h5 => ?_)
  · have h5r := h5; try simp only [Bool.not_eq_true', Bool.not_eq_false', Bool.and_eq_true, Bool.or_eq_true, Bool.or_eq_false_iff, Bool.and_eq_false_iff, decide_eq_true_eq, decide_eq_false_iff_not, beq_iff_eq, beq_eq_false_iff_ne, ne_eq] at h5
    refine wp_seq_k (fun K hK => ?_); refine wp_region_lit ?_
    refine o_assign HE rfl rfl ?_; clear HE; intro a HE
    refine hK _ _ ?_; clear hK K
    refine wp_ret ?_
    show Q .ret _ _
    refine ret hQ HE rfl (HE.res rfl .nil) ⟨_, _, HS.stop (List.nil_sublist _), rfl, ?_⟩
    exact absurd h5r (by decide)
  · have h5r := h5; try simp only [Bool.not_eq_true', Bool.not_eq_false', Bool.and_eq_true, Bool.or_eq_true, Bool.or_eq_false_iff, Bool.and_eq_false_iff, decide_eq_true_eq, decide_eq_false_iff_not, beq_iff_eq, beq_eq_false_iff_ne, ne_eq] at h5
    refine wp_skip ?_
    refine hK2 _ _ ?_; clear hK2
    refine wp_seq_k (fun K8 hK7 => ?_)
    refine wp_seq_k (fun K hK => ?_); refine wp_region_lit ?_
    refine o_ldA HE rfl HS rfl T.a26 (.here .here) rfl ?_; clear HE; intro a HE
    refine o_callP HE rfl HS rfl rfl T.g15 (c_Right p _ _ HS.sub) ?_
    clear HE HS; rintro _ w a HS rfl HE
    refine o_not HE rfl rfl ?_; clear HE; intro a HE
    refine hK _ _ ?_; clear hK K
    refine cond HE rfl (fun h10 => ?_) (fun h10 => ?_)
    · have h10r := h10; try simp only [Bool.not_eq_true', Bool.not_eq_false', Bool.and_eq_true, Bool.or_eq_true, Bool.or_eq_false_iff, Bool.and_eq_false_iff, decide_eq_true_eq, decide_eq_false_iff_not, beq_iff_eq, beq_eq_false_iff_ne, ne_eq] at h10
      refine wp_seq_k (fun K hK => ?_); refine wp_region_lit ?_
      refine o_assign HE rfl rfl ?_; clear HE; intro a HE
      refine hK _ _ ?_; clear hK K
      refine wp_ret ?_
      show Q .ret _ _
      refine ret hQ HE rfl (HE.res rfl .nil) ⟨_, _, HS.stop (List.nil_sublist _), rfl, ?_⟩
      show _ = _
      rfl
    · have h10r := h10; try simp only [Bool.not_eq_true', Bool.not_eq_false', Bool.and_eq_true, Bool.or_eq_true, Bool.or_eq_false_iff, Bool.and_eq_false_iff, decide_eq_true_eq, decide_eq_false_iff_not, beq_iff_eq, beq_eq_false_iff_ne, ne_eq] at h10
      refine wp_skip ?_
      refine hK7 _ _ ?_; clear hK7
      refine wp_seq_k (fun K hK => ?_); refine wp_region_lit ?_
      have hp : rightB p = true := by simpa using h10r
      refine o_assign HE rfl rfl ?_; clear HE; intro a HE
      refine hK _ _ ?_; clear hK K
      refine wp_seq_k (fun K hK => ?_); refine wp_region_lit ?_
      refine o_ldA HE rfl HS rfl T.a26 (.here .here) rfl ?_; clear HE; intro a HE
      refine o_callP HE rfl HS rfl rfl T.g16 (c_Print25 p _ _ HS.sub) ?_
      clear HE HS; rintro _ w a HS rfl HE
      refine o_assign HE rfl rfl ?_; clear HE; intro a HE
      refine hK _ _ ?_; clear hK K
      refine wp_seq_k (fun K hK => ?_); refine wp_region_lit ?_
      have hpl9 := printR_len (p := p)
      refine o_assign HE rfl rfl ?_; clear HE; intro a HE
      refine hK _ _ ?_; clear hK K
      refine wp_seq_k (fun K16 hK15 => ?_)
      refine wp_seq_k (fun K hK => ?_); refine wp_region_lit ?_
      refine o_move HE rfl rfl ?_; clear HE; intro a HE
      refine o_lenS HE rfl rfl Tryd.underlying9 ?_; clear HE; intro a HE
      refine o_move HE rfl rfl ?_; clear HE; intro a HE
      refine hK _ _ ?_; clear hK K
      refine wp_block ?_
      replace HS := HS.nilChunk
      have oH19 : X.Own Knd.s 9 G none 0 ([] : List Bs) [] := X.Own.nil
      refine loop (fun (q : Nat × Nat) a' w' => ∃ (oA7_1 : Option Addr) (oc7_1 : Nat) (oC7_1 : Chunk), St w0 G [] G w' [oC7_1, [(B3, Cells 26 [(0, .int .i64 p.r0.way), (1, .int .i64 p.r0.size), (2, .int .i64 p.r1.way), (3, .int .i64 p.r1.size), (4, .int .i64 p.r2.way), (5, .int .i64 p.r2.size), (6, .int .i64 p.r3.way), (7, .int .i64 p.r3.size), (8, .int .i64 p.r4.way), (9, .int .i64 p.r4.size), (10, .int .i64 p.time), (11, .int .i64 p.note), (12, .bool p.loose), (13, .bool p.force)])]] ∧ Env a' 102 [] [(1, .int .u8 ta), (2, .int .u8 tb), (3, .pointer (some ⟨B3, 0, none⟩)), (6, .bool false), (7, .slice oA7_1 (((pcs 10 (List.take q.1 (printR p))).map (· ++ [10])).length) oc7_1), (8, str (printR p)), (9, .int .i64 ((q.2 : Nat) : Int)), (24, str (printR p)), (25, .int .i64 ((printR p).length : Int)), (26, .int .i64 ((q.1 : Nat) : Int))] ∧ X.Own Knd.s 9 G oA7_1 oc7_1 ((pcs 10 (List.take q.1 (printR p))).map (· ++ [10])) oC7_1 ∧ (q.1 ≤ (printR p).length ∧ q.2 = atS 10 (printR p) q.1)) (fun (q : Nat × Nat) => (printR p).length - q.1) (0, 0) ⟨_, _, _, HS, HE.cut ⟨rfl, rfl, rfl, rfl, rfl, rfl, rfl, rfl, rfl, rfl, trivial⟩, X.Own.nil (K := Knd.s), ⟨Nat.zero_le _, (at_zero 10 _).symm⟩⟩ ?_
      clear HE HS; intro q a w ⟨oA7_1, oc7_1, oC7_1, HS, HE, oH7_1, ⟨hq1, hq2⟩⟩
      refine wp_seq_k (fun K hK => ?_); refine wp_region_lit ?_
      refine o_lss HE rfl rfl rfl ?_; clear HE; intro a HE
      refine hK _ _ ?_; clear hK K
      refine wp_seq_k (fun K23 hK22 => ?_)
      refine cond HE rfl (fun h24 => ?_) (fun h24 => ?_)
      · have h24r := h24; try simp only [Bool.not_eq_true', Bool.not_eq_false', Bool.and_eq_true, Bool.or_eq_true, Bool.or_eq_false_iff, Bool.and_eq_false_iff, decide_eq_true_eq, decide_eq_false_iff_not, beq_iff_eq, beq_eq_false_iff_ne, ne_eq] at h24
        refine wp_skip ?_
        refine hK22 _ _ ?_; clear hK22
        refine wp_seq_k (fun K26 hK25 => ?_)
        refine wp_block ?_
        refine wp_seq_k (fun K hK => ?_); refine wp_region_lit ?_
        refine o_move HE rfl rfl ?_; clear HE; intro a HE
        refine o_assign HE rfl rfl ?_; clear HE; intro a HE
        refine hK _ _ ?_; clear hK K
        refine wp_seq_k (fun K hK => ?_); refine wp_region_lit ?_
        refine o_move HE rfl rfl ?_; clear HE; intro a HE
        refine o_move HE rfl rfl ?_; clear HE; intro a HE
        refine o_index HE rfl rfl rfl Tryd.underlying9 (by omega) ?_; clear HE; intro a HE
        refine o_eqI HE rfl rfl rfl ?_; clear HE; intro a HE
        refine hK _ _ ?_; clear hK K
        refine cond HE rfl (fun h29 => ?_) (fun h29 => ?_)
        · have h29r := h29; try simp only [Bool.not_eq_true', Bool.not_eq_false', Bool.and_eq_true, Bool.or_eq_true, Bool.or_eq_false_iff, Bool.and_eq_false_iff, decide_eq_true_eq, decide_eq_false_iff_not, beq_iff_eq, beq_eq_false_iff_ne, ne_eq] at h29
          refine wp_seq_k (fun K hK => ?_); refine wp_region_lit ?_
          refine o_move HE rfl rfl ?_; clear HE; intro a HE
          refine o_move HE rfl rfl ?_; clear HE; intro a HE
          refine o_move HE rfl rfl ?_; clear HE; intro a HE
          refine o_move HE rfl rfl ?_; clear HE; intro a HE
          refine o_add HE rfl rfl rfl (by omega) ?_; clear HE; intro a HE
          refine o_sliceS HE rfl rfl rfl rfl Tryd.underlying9 (by (have := atS_le 10 (printR p) q.1; omega)) ?_; clear HE; intro a HE
          refine o_buildSl (cs := #[str (sub (printR p) ((q.2 : Nat) : Int) (((q.1 : Nat) : Int) + 1))]) [(0, _)] HE rfl HS rfl T.l29 (by kernel_rfl) ⟨rfl, trivial⟩ ?_; clear HE HS; intro B39 w a HS HE
          refine o_appendL (K := Knd.s) (ys := [sub (printR p) ((q.2 : Nat) : Int) (((q.1 : Nat) : Int) + 1)]) (n := 1) HE rfl HS (.there .here) oH7_1 rfl rfl T.p29 (.here .here) rfl ⟨rfl, rfl⟩ rfl rfl (by (have := pcs_len 10 (printR p) q.1 (by omega); simp; omega)) (by (have := pcs_len 10 (printR p) q.1 (by omega); simp; omega)) ?_
          clear HE HS; intro oA30 oc30 oC30 w a HS oH30 HE
          skip
          refine o_assign HE rfl rfl ?_; clear HE; intro a HE
          refine hK _ _ ?_; clear hK K
          refine wp_region_lit ?_
          refine o_move HE rfl rfl ?_; clear HE; intro a HE
          refine o_add HE rfl rfl rfl (by omega) ?_; clear HE; intro a HE
          skip
          refine o_assign HE rfl rfl ?_; clear HE; intro a HE
          refine hK25 _ _ ?_; clear hK25
          refine wp_region_lit ?_
          refine o_add HE rfl rfl rfl (by omega) ?_; clear HE; intro a HE
          refine o_move HE rfl rfl ?_; clear HE; intro a HE
          replace HS := HS.drop (M' := [_, _]) (sub_keep (sub_drop (sub_keep sub_nil)))
          have hat : (printR p)[q.1]'(by omega) = 10 := bAt8 (by omega) (by simpa using h29)
          have hpn : q.1 + 1 ≤ (printR p).length ∧ q.1 + 1 = atS 10 (printR p) (q.1 + 1) := ⟨by omega, (at_hit (by omega) hat).symm⟩
          have hxs : (((pcs 10 (List.take q.1 (printR p))).map (· ++ [10])) ++ [sub (printR p) ((q.2 : Nat) : Int) (((q.1 : Nat) : Int) + 1)]) = (pcs 10 (List.take (q.1 + 1) (printR p))).map (· ++ [10]) := by rw [sub_hit' hq2 (by omega) hat, pcs_hit (by omega) hat, List.map_append]; rfl
          rw [hxs] at HE oH30; clear hxs
          exact ⟨(q.1 + 1, q.1 + 1), ⟨_, _, _, HS, HE.cut ⟨rfl, rfl, rfl, rfl, rfl, rfl, rfl, rfl, rfl, rfl, trivial⟩, oH30, hpn⟩, by show (printR p).length - (q.1 + 1) < _; omega⟩
        · have h29r := h29; try simp only [Bool.not_eq_true', Bool.not_eq_false', Bool.and_eq_true, Bool.or_eq_true, Bool.or_eq_false_iff, Bool.and_eq_false_iff, decide_eq_true_eq, decide_eq_false_iff_not, beq_iff_eq, beq_eq_false_iff_ne, ne_eq] at h29
          refine wp_skip ?_
          refine hK25 _ _ ?_; clear hK25
          refine wp_region_lit ?_
          refine o_add HE rfl rfl rfl (by omega) ?_; clear HE; intro a HE
          refine o_move HE rfl rfl ?_; clear HE; intro a HE
          have hat : ¬ (printR p)[q.1]'(by omega) = 10 := bNo8 (by omega) (by simpa using h29)
          have hpn : q.1 + 1 ≤ (printR p).length ∧ q.2 = atS 10 (printR p) (q.1 + 1) := ⟨by omega, hq2.trans (at_miss (by omega) hat).symm⟩
          have hxs : ((pcs 10 (List.take q.1 (printR p))).map (· ++ [10])) = (pcs 10 (List.take (q.1 + 1) (printR p))).map (· ++ [10]) := by rw [pcs_miss (by omega) hat]
          rw [hxs] at HE oH7_1; clear hxs
          exact ⟨(q.1 + 1, q.2), ⟨_, _, _, HS, HE.cut ⟨rfl, rfl, rfl, rfl, rfl, rfl, rfl, rfl, rfl, rfl, trivial⟩, oH7_1, hpn⟩, by show (printR p).length - (q.1 + 1) < _; omega⟩
      · have h24r := h24; try simp only [Bool.not_eq_true', Bool.not_eq_false', Bool.and_eq_true, Bool.or_eq_true, Bool.or_eq_false_iff, Bool.and_eq_false_iff, decide_eq_true_eq, decide_eq_false_iff_not, beq_iff_eq, beq_eq_false_iff_ne, ne_eq] at h24
        refine wp_exit ?_
        refine hK15 _ _ ?_; clear hK15
        refine wp_seq_k (fun K hK => ?_); refine wp_region_lit ?_
        have hcphR33 := oH7_1.cap
        obtain ⟨G32, hle34, HS', hR33⟩ := X.Own.still HS .here oH7_1; clear HS; have HS := HS'; clear HS'
        replace h8 := h8.le hle34
        replace hgw := hgw.le hle34
        replace hgd := hgd.le hle34
        have hq9 : q.1 = (printR p).length := by omega
        have hxs : (pcs 10 (List.take q.1 (printR p))).map (· ++ [10]) = piecesP p := by rw [hq9, List.take_length, piecesP_pcs hp]
        rw [hxs] at HE hR33 hcphR33
        have hkl := keys_len p
        have hpl := piecesP_len p
        have h00 : ([] : Bs) = turnS p ta.toNat 0 := rfl
        refine o_assign HE rfl rfl ?_; clear HE; intro a HE
        refine hK _ _ ?_; clear hK K
        refine wp_seq_k (fun K37 hK36 => ?_)
        refine wp_seq_k (fun K hK => ?_); refine wp_region_lit ?_
        refine o_move HE rfl rfl ?_; clear HE; intro a HE
        refine o_lenL HE rfl rfl Tryd.underlying29 ?_; clear HE; intro a HE
        refine o_move HE rfl rfl ?_; clear HE; intro a HE
        refine hK _ _ ?_; clear hK K
        refine wp_block ?_
        refine loop (fun (i : Nat) a' w' => St w0 G [] G32 w' [[(B3, Cells 26 [(0, .int .i64 p.r0.way), (1, .int .i64 p.r0.size), (2, .int .i64 p.r1.way), (3, .int .i64 p.r1.size), (4, .int .i64 p.r2.way), (5, .int .i64 p.r2.size), (6, .int .i64 p.r3.way), (7, .int .i64 p.r3.size), (8, .int .i64 p.r4.way), (9, .int .i64 p.r4.size), (10, .int .i64 p.time), (11, .int .i64 p.note), (12, .bool p.loose), (13, .bool p.force)])]] ∧ Env a' 102 [] [(1, .int .u8 ta), (2, .int .u8 tb), (3, .pointer (some ⟨B3, 0, none⟩)), (6, .bool false), (7, .slice oA7_1 ((piecesP p).length) oc7_1), (11, str (turnS p ta.toNat i)), (44, .slice oA7_1 ((piecesP p).length) oc7_1), (45, .int .i64 ((piecesP p).length : Int)), (46, .int .i64 ((i : Nat) : Int))] ∧ (i ≤ (piecesP p).length)) (fun (i : Nat) => (piecesP p).length - i) 0 ⟨HS, HE.cut ⟨rfl, rfl, rfl, rfl, rfl, rfl, rfl, rfl, rfl, trivial⟩, Nat.zero_le _⟩ ?_
        clear HE HS; intro i a w ⟨HS, HE, hi⟩
        refine wp_seq_k (fun K hK => ?_); refine wp_region_lit ?_
        refine o_lss HE rfl rfl rfl ?_; clear HE; intro a HE
        refine hK _ _ ?_; clear hK K
        refine wp_seq_k (fun K42 hK41 => ?_)
        refine cond HE rfl (fun h43 => ?_) (fun h43 => ?_)
        · have h43r := h43; try simp only [Bool.not_eq_true', Bool.not_eq_false', Bool.and_eq_true, Bool.or_eq_true, Bool.or_eq_false_iff, Bool.and_eq_false_iff, decide_eq_true_eq, decide_eq_false_iff_not, beq_iff_eq, beq_eq_false_iff_ne, ne_eq] at h43
          refine wp_skip ?_
          refine hK41 _ _ ?_; clear hK41
          refine wp_seq_k (fun K45 hK44 => ?_)
          refine wp_block ?_
          refine wp_seq_k (fun K hK => ?_); refine wp_region_lit ?_
          refine o_move HE rfl rfl ?_; clear HE; intro a HE
          refine o_assign HE rfl rfl ?_; clear HE; intro a HE
          refine hK _ _ ?_; clear hK K
          refine wp_region_lit ?_
          refine o_move HE rfl rfl ?_; clear HE; intro a HE
          refine o_move HE rfl rfl ?_; clear HE; intro a HE
          refine o_move HE rfl rfl ?_; clear HE; intro a HE
          refine o_move HE rfl rfl ?_; clear HE; intro a HE
          refine o_conv HE rfl rfl T.c5_3 (wrap_i64 (by omega)) ?_; clear HE; intro a HE
          refine o_add HE rfl rfl rfl (by omega) ?_; clear HE; intro a HE
          refine o_move HE rfl rfl ?_; clear HE; intro a HE
          refine o_lenL HE rfl rfl Tryd.underlying29 ?_; clear HE; intro a HE
          refine o_remW HE rfl rfl rfl (by omega) ?_; clear HE; intro a HE
          obtain ⟨m57, hm57, hme57, hml57⟩ := turn_ix (p := p) (i := i) (a := ta) (by omega)
          rw [hm57] at HE
          have hi47 : ((m57 : Nat) : Int).toNat < (piecesP p).length := by omega
          obtain ⟨eb47, eo47, hA47, el47⟩ := Rd.at hR33 (List.getElem?_eq_getElem hi47); cases hA47
          obtain ⟨x47, ex47⟩ : ∃ x, (piecesP p)[((m57 : Nat) : Int).toNat] = x := ⟨_, rfl⟩; rw [ex47] at el47
          have el47 := kof_open (enc := fun l => str l) el47
          refine o_ixL HE rfl rfl rfl T.l29 ⟨by omega, by omega⟩ ?_; clear HE; intro a HE
          refine o_ldI HE rfl HS rfl T.s9 el47 (j := 0) rfl rfl ?_; clear HE; intro a HE
          obtain ⟨hk60, hx60⟩ := piecesP_at ex47
          have hxl60 := (piece_len hp hk60).1
          rw [← hx60] at hxl60
          have htl60 := turn_len hp (a := ta.toNat) (i := i) (by omega)
          refine o_cat HE rfl rfl rfl (by omega) ?_; clear HE; intro a HE
          skip
          refine o_assign HE rfl rfl ?_; clear HE; intro a HE
          refine hK44 _ _ ?_; clear hK44
          refine wp_region_lit ?_
          refine o_add HE rfl rfl rfl (by omega) ?_; clear HE; intro a HE
          refine o_move HE rfl rfl ?_; clear HE; intro a HE
          have hv : turnS p ta.toNat i ++ x47 = turnS p ta.toNat (i + 1) := by rw [hx60, hme57, turn_step]
          rw [hv] at HE
          exact ⟨i + 1, ⟨HS, HE.cut ⟨rfl, rfl, rfl, rfl, rfl, rfl, rfl, rfl, rfl, trivial⟩, by omega⟩, by omega⟩
        · have h43r := h43; try simp only [Bool.not_eq_true', Bool.not_eq_false', Bool.and_eq_true, Bool.or_eq_true, Bool.or_eq_false_iff, Bool.and_eq_false_iff, decide_eq_true_eq, decide_eq_false_iff_not, beq_iff_eq, beq_eq_false_iff_ne, ne_eq] at h43
          refine wp_exit ?_
          refine hK36 _ _ ?_; clear hK36
          refine wp_seq_k (fun K hK => ?_); refine wp_region_lit ?_
          refine o_move HE rfl rfl ?_; clear HE; intro a HE
          have htl := turn_len hp (a := ta.toNat) (i := i) (by omega)
          refine o_callP HE rfl HS rfl rfl T.g17 (c_Parse25 (turnS p ta.toNat i) _ _ HS.sub m8 h8 hgw hgd (by first | omega | (simp; omega))) ?_
          clear HE HS; rintro _ w a HS rfl HE
          refine o_move HE rfl rfl ?_; clear HE; intro a HE
          refine o_extract HE rfl rfl rfl ?_; clear HE; intro a HE
          refine o_extract HE rfl rfl rfl ?_; clear HE; intro a HE
          refine o_allocL [(0, _), (1, _), (2, _), (3, _), (4, _), (5, _), (6, _), (7, _), (8, _), (9, _), (10, _), (11, _), (12, _), (13, _)] HE rfl HS T.z26 ⟨rfl, rfl, rfl, rfl, rfl, rfl, rfl, rfl, rfl, rfl, rfl, rfl, rfl, rfl, trivial⟩ ?_; clear HE HS; intro B13 w a HS HE
          refine o_allocL [(0, _), (1, _)] HE rfl HS T.z33 ⟨rfl, rfl, trivial⟩ ?_; clear HE HS; intro B14 w a HS HE
          refine o_stA HE HS rfl rfl rfl T.a26 (.there (.here .here)) rfl ?_; clear HS; intro w HS
          refine o_stA HE HS rfl rfl rfl T.a33 (.here .here) rfl ?_; clear HS; intro w HS
          refine hK _ _ ?_; clear hK K
          refine wp_seq_k (fun K hK => ?_); refine wp_region_lit ?_
          refine o_move HE rfl rfl ?_; clear HE; intro a HE
          refine o_move HE rfl rfl ?_; clear HE; intro a HE
          refine o_move HE rfl rfl ?_; clear HE; intro a HE
          refine o_conv HE rfl rfl T.c5_3 (wrap_i64 (by omega)) ?_; clear HE; intro a HE
          refine o_move HE rfl rfl ?_; clear HE; intro a HE
          refine o_lenL HE rfl rfl Tryd.underlying29 ?_; clear HE; intro a HE
          refine o_remW HE rfl rfl rfl (by omega) ?_; clear HE; intro a HE
          obtain ⟨m74, hm74, hml74⟩ := turn_ix0 (p := p) (a := tb) (by omega)
          rw [hm74] at HE
          have hi49 : ((m74 : Nat) : Int).toNat < (piecesP p).length := by omega
          obtain ⟨eb49, eo49, hA49, el49⟩ := Rd.at hR33 (List.getElem?_eq_getElem hi49); cases hA49
          obtain ⟨x49, ex49⟩ : ∃ x, (piecesP p)[((m74 : Nat) : Int).toNat] = x := ⟨_, rfl⟩; rw [ex49] at el49
          have el49 := kof_open (enc := fun l => str l) el49
          refine o_ixL HE rfl rfl rfl T.l29 ⟨by omega, by omega⟩ ?_; clear HE; intro a HE
          refine o_ldI HE rfl HS rfl T.s9 el49 (j := 0) rfl rfl ?_; clear HE; intro a HE
          obtain ⟨hk77, hx77⟩ := piecesP_at ex49
          have hxl77 := (piece_len hp hk77).1
          rw [← hx77] at hxl77
          have htl77 := turn_len hp (a := ta.toNat) (i := i) (by omega)
          refine o_cat HE rfl rfl rfl (by omega) ?_; clear HE; intro a HE
          refine o_callP HE rfl HS rfl rfl T.g17 (c_Parse25 ((turnS p ta.toNat i) ++ x49) _ _ HS.sub m8 h8 hgw hgd (by first | omega | (simp; omega))) ?_
          clear HE HS; rintro _ w a HS rfl HE
          refine o_move HE rfl rfl ?_; clear HE; intro a HE
          refine o_extract HE rfl rfl rfl ?_; clear HE; intro a HE
          refine o_extract HE rfl rfl rfl ?_; clear HE; intro a HE
          refine o_allocL [(0, _), (1, _), (2, _), (3, _), (4, _), (5, _), (6, _), (7, _), (8, _), (9, _), (10, _), (11, _), (12, _), (13, _)] HE rfl HS T.z26 ⟨rfl, rfl, rfl, rfl, rfl, rfl, rfl, rfl, rfl, rfl, rfl, rfl, rfl, rfl, trivial⟩ ?_; clear HE HS; intro B15 w a HS HE
          refine o_allocL [(0, _), (1, _)] HE rfl HS T.z33 ⟨rfl, rfl, trivial⟩ ?_; clear HE HS; intro B16 w a HS HE
          refine o_stA HE HS rfl rfl rfl T.a26 (.there (.here .here)) rfl ?_; clear HS; intro w HS
          refine o_stA HE HS rfl rfl rfl T.a33 (.here .here) rfl ?_; clear HS; intro w HS
          refine hK _ _ ?_; clear hK K
          refine wp_seq_k (fun K hK => ?_); refine wp_region_lit ?_
          refine o_ldA HE rfl HS rfl T.a33 (.there (.there (.here .here))) rfl ?_; clear HE; intro a HE
          refine o_build (cs := #[.int .i64 0, .int .i64 0]) HE rfl rfl (by kernel_rfl) ?_; clear HE; intro a HE
          refine o_eqA (b := decide ((failC (parseP (turnS p ta.toNat i)).2) = 0) && (decide (((parseP (turnS p ta.toNat i)).2) = 0) && true)) HE rfl rfl rfl T.q33 rfl rfl ?_; clear HE; intro a HE
          refine o_move HE rfl rfl ?_; clear HE; intro a HE
          refine cutL 4 (fun a' w' => w = w' ∧ Env a' 102 [] [(88, .bool ((decide ((failC (parseP (turnS p ta.toNat i)).2) = 0) && (decide (((parseP (turnS p ta.toNat i)).2) = 0) && true)) && (decide (((parseP (turnS p ta.toNat i)).1.r0.way) = p.r0.way) && (decide (((parseP (turnS p ta.toNat i)).1.r0.size) = p.r0.size) && (decide (((parseP (turnS p ta.toNat i)).1.r1.way) = p.r1.way) && (decide (((parseP (turnS p ta.toNat i)).1.r1.size) = p.r1.size) && (decide (((parseP (turnS p ta.toNat i)).1.r2.way) = p.r2.way) && (decide (((parseP (turnS p ta.toNat i)).1.r2.size) = p.r2.size) && (decide (((parseP (turnS p ta.toNat i)).1.r3.way) = p.r3.way) && (decide (((parseP (turnS p ta.toNat i)).1.r3.size) = p.r3.size) && (decide (((parseP (turnS p ta.toNat i)).1.r4.way) = p.r4.way) && (decide (((parseP (turnS p ta.toNat i)).1.r4.size) = p.r4.size) && (decide (((parseP (turnS p ta.toNat i)).1.time) = p.time) && (decide (((parseP (turnS p ta.toNat i)).1.note) = p.note) && (((parseP (turnS p ta.toNat i)).1.loose) == p.loose && (((parseP (turnS p ta.toNat i)).1.force) == p.force && true)))))))))))))))), (1, .int .u8 ta), (2, .int .u8 tb), (3, .pointer (some ⟨B3, 0, none⟩)), (6, .bool false), (7, .slice (some ⟨eb49, eo49, none⟩) ((piecesP p).length) oc7_1), (11, str (turnS p ta.toNat i)), (13, .pointer (some ⟨B13, 0, none⟩)), (14, .pointer (some ⟨B14, 0, none⟩)), (15, .pointer (some ⟨B15, 0, none⟩)), (16, .pointer (some ⟨B16, 0, none⟩)), (44, .slice (some ⟨eb49, eo49, none⟩) ((piecesP p).length) oc7_1), (45, .int .i64 ((piecesP p).length : Int)), (46, .int .i64 ((i : Nat) : Int)), (47, .bool (decide (((i : Nat) : Int) < ((piecesP p).length : Int)))), (62, .tuple #[.agg #[.int .i64 ((parseP (turnS p ta.toNat i)).1.r0.way), .int .i64 ((parseP (turnS p ta.toNat i)).1.r0.size), .int .i64 ((parseP (turnS p ta.toNat i)).1.r1.way), .int .i64 ((parseP (turnS p ta.toNat i)).1.r1.size), .int .i64 ((parseP (turnS p ta.toNat i)).1.r2.way), .int .i64 ((parseP (turnS p ta.toNat i)).1.r2.size), .int .i64 ((parseP (turnS p ta.toNat i)).1.r3.way), .int .i64 ((parseP (turnS p ta.toNat i)).1.r3.size), .int .i64 ((parseP (turnS p ta.toNat i)).1.r4.way), .int .i64 ((parseP (turnS p ta.toNat i)).1.r4.size), .int .i64 ((parseP (turnS p ta.toNat i)).1.time), .int .i64 ((parseP (turnS p ta.toNat i)).1.note), .bool ((parseP (turnS p ta.toNat i)).1.loose), .bool ((parseP (turnS p ta.toNat i)).1.force)], .agg #[.int .i64 (failC (parseP (turnS p ta.toNat i)).2), .int .i64 ((parseP (turnS p ta.toNat i)).2)]]), (63, str (turnS p ta.toNat i)), (64, .tuple #[.agg #[.int .i64 ((parseP (turnS p ta.toNat i)).1.r0.way), .int .i64 ((parseP (turnS p ta.toNat i)).1.r0.size), .int .i64 ((parseP (turnS p ta.toNat i)).1.r1.way), .int .i64 ((parseP (turnS p ta.toNat i)).1.r1.size), .int .i64 ((parseP (turnS p ta.toNat i)).1.r2.way), .int .i64 ((parseP (turnS p ta.toNat i)).1.r2.size), .int .i64 ((parseP (turnS p ta.toNat i)).1.r3.way), .int .i64 ((parseP (turnS p ta.toNat i)).1.r3.size), .int .i64 ((parseP (turnS p ta.toNat i)).1.r4.way), .int .i64 ((parseP (turnS p ta.toNat i)).1.r4.size), .int .i64 ((parseP (turnS p ta.toNat i)).1.time), .int .i64 ((parseP (turnS p ta.toNat i)).1.note), .bool ((parseP (turnS p ta.toNat i)).1.loose), .bool ((parseP (turnS p ta.toNat i)).1.force)], .agg #[.int .i64 (failC (parseP (turnS p ta.toNat i)).2), .int .i64 ((parseP (turnS p ta.toNat i)).2)]]), (65, .agg #[.int .i64 ((parseP (turnS p ta.toNat i)).1.r0.way), .int .i64 ((parseP (turnS p ta.toNat i)).1.r0.size), .int .i64 ((parseP (turnS p ta.toNat i)).1.r1.way), .int .i64 ((parseP (turnS p ta.toNat i)).1.r1.size), .int .i64 ((parseP (turnS p ta.toNat i)).1.r2.way), .int .i64 ((parseP (turnS p ta.toNat i)).1.r2.size), .int .i64 ((parseP (turnS p ta.toNat i)).1.r3.way), .int .i64 ((parseP (turnS p ta.toNat i)).1.r3.size), .int .i64 ((parseP (turnS p ta.toNat i)).1.r4.way), .int .i64 ((parseP (turnS p ta.toNat i)).1.r4.size), .int .i64 ((parseP (turnS p ta.toNat i)).1.time), .int .i64 ((parseP (turnS p ta.toNat i)).1.note), .bool ((parseP (turnS p ta.toNat i)).1.loose), .bool ((parseP (turnS p ta.toNat i)).1.force)]), (66, .agg #[.int .i64 (failC (parseP (turnS p ta.toNat i)).2), .int .i64 ((parseP (turnS p ta.toNat i)).2)]), (67, .tuple #[.agg #[.int .i64 ((parseP ((turnS p ta.toNat i) ++ x49)).1.r0.way), .int .i64 ((parseP ((turnS p ta.toNat i) ++ x49)).1.r0.size), .int .i64 ((parseP ((turnS p ta.toNat i) ++ x49)).1.r1.way), .int .i64 ((parseP ((turnS p ta.toNat i) ++ x49)).1.r1.size), .int .i64 ((parseP ((turnS p ta.toNat i) ++ x49)).1.r2.way), .int .i64 ((parseP ((turnS p ta.toNat i) ++ x49)).1.r2.size), .int .i64 ((parseP ((turnS p ta.toNat i) ++ x49)).1.r3.way), .int .i64 ((parseP ((turnS p ta.toNat i) ++ x49)).1.r3.size), .int .i64 ((parseP ((turnS p ta.toNat i) ++ x49)).1.r4.way), .int .i64 ((parseP ((turnS p ta.toNat i) ++ x49)).1.r4.size), .int .i64 ((parseP ((turnS p ta.toNat i) ++ x49)).1.time), .int .i64 ((parseP ((turnS p ta.toNat i) ++ x49)).1.note), .bool ((parseP ((turnS p ta.toNat i) ++ x49)).1.loose), .bool ((parseP ((turnS p ta.toNat i) ++ x49)).1.force)], .agg #[.int .i64 (failC (parseP ((turnS p ta.toNat i) ++ x49)).2), .int .i64 ((parseP ((turnS p ta.toNat i) ++ x49)).2)]]), (68, str (turnS p ta.toNat i)), (69, .slice (some ⟨eb49, eo49, none⟩) ((piecesP p).length) oc7_1), (70, .int .u8 tb), (71, .int .i64 tb), (72, .slice (some ⟨eb49, eo49, none⟩) ((piecesP p).length) oc7_1), (73, .int .i64 ((piecesP p).length : Int)), (74, .int .i64 ((m74 : Nat) : Int)), (75, .pointer (some ⟨eb49, eo49 + ((m74 : Nat) : Int).toNat * 1, none⟩)), (76, str x49), (77, str ((turnS p ta.toNat i) ++ x49)), (78, .tuple #[.agg #[.int .i64 ((parseP ((turnS p ta.toNat i) ++ x49)).1.r0.way), .int .i64 ((parseP ((turnS p ta.toNat i) ++ x49)).1.r0.size), .int .i64 ((parseP ((turnS p ta.toNat i) ++ x49)).1.r1.way), .int .i64 ((parseP ((turnS p ta.toNat i) ++ x49)).1.r1.size), .int .i64 ((parseP ((turnS p ta.toNat i) ++ x49)).1.r2.way), .int .i64 ((parseP ((turnS p ta.toNat i) ++ x49)).1.r2.size), .int .i64 ((parseP ((turnS p ta.toNat i) ++ x49)).1.r3.way), .int .i64 ((parseP ((turnS p ta.toNat i) ++ x49)).1.r3.size), .int .i64 ((parseP ((turnS p ta.toNat i) ++ x49)).1.r4.way), .int .i64 ((parseP ((turnS p ta.toNat i) ++ x49)).1.r4.size), .int .i64 ((parseP ((turnS p ta.toNat i) ++ x49)).1.time), .int .i64 ((parseP ((turnS p ta.toNat i) ++ x49)).1.note), .bool ((parseP ((turnS p ta.toNat i) ++ x49)).1.loose), .bool ((parseP ((turnS p ta.toNat i) ++ x49)).1.force)], .agg #[.int .i64 (failC (parseP ((turnS p ta.toNat i) ++ x49)).2), .int .i64 ((parseP ((turnS p ta.toNat i) ++ x49)).2)]]), (79, .agg #[.int .i64 ((parseP ((turnS p ta.toNat i) ++ x49)).1.r0.way), .int .i64 ((parseP ((turnS p ta.toNat i) ++ x49)).1.r0.size), .int .i64 ((parseP ((turnS p ta.toNat i) ++ x49)).1.r1.way), .int .i64 ((parseP ((turnS p ta.toNat i) ++ x49)).1.r1.size), .int .i64 ((parseP ((turnS p ta.toNat i) ++ x49)).1.r2.way), .int .i64 ((parseP ((turnS p ta.toNat i) ++ x49)).1.r2.size), .int .i64 ((parseP ((turnS p ta.toNat i) ++ x49)).1.r3.way), .int .i64 ((parseP ((turnS p ta.toNat i) ++ x49)).1.r3.size), .int .i64 ((parseP ((turnS p ta.toNat i) ++ x49)).1.r4.way), .int .i64 ((parseP ((turnS p ta.toNat i) ++ x49)).1.r4.size), .int .i64 ((parseP ((turnS p ta.toNat i) ++ x49)).1.time), .int .i64 ((parseP ((turnS p ta.toNat i) ++ x49)).1.note), .bool ((parseP ((turnS p ta.toNat i) ++ x49)).1.loose), .bool ((parseP ((turnS p ta.toNat i) ++ x49)).1.force)]), (80, .agg #[.int .i64 (failC (parseP ((turnS p ta.toNat i) ++ x49)).2), .int .i64 ((parseP ((turnS p ta.toNat i) ++ x49)).2)])]) ?_ ?_
          · refine (Bool.eq_false_or_eq_true (decide ((failC (parseP (turnS p ta.toNat i)).2) = 0) && (decide (((parseP (turnS p ta.toNat i)).2) = 0) && true))).elim (fun hb51 => ?_) (fun hb51 => ?_)
            · skip
              have hk52 := hb51; try simp only [Bool.not_eq_true', Bool.not_eq_false', Bool.and_eq_true, Bool.or_eq_true, Bool.or_eq_false_iff, decide_eq_true_eq, decide_eq_false_iff_not, beq_iff_eq, beq_eq_false_iff_ne, ne_eq] at hk52
              refine op_on HE rfl rfl hb51 ?_
              refine o_ldA HE rfl HS rfl T.a26 (.there (.there (.there (.here .here)))) rfl ?_; clear HE; intro a HE
              refine op_on HE rfl rfl hb51 ?_
              refine o_ldA HE rfl HS rfl T.a26 (.there (.there (.there (.there (.here .here))))) rfl ?_; clear HE; intro a HE
              refine op_on HE rfl rfl hb51 ?_
              refine o_eqG (b := decide (((parseP (turnS p ta.toNat i)).1.r0.way) = p.r0.way) && (decide (((parseP (turnS p ta.toNat i)).1.r0.size) = p.r0.size) && (decide (((parseP (turnS p ta.toNat i)).1.r1.way) = p.r1.way) && (decide (((parseP (turnS p ta.toNat i)).1.r1.size) = p.r1.size) && (decide (((parseP (turnS p ta.toNat i)).1.r2.way) = p.r2.way) && (decide (((parseP (turnS p ta.toNat i)).1.r2.size) = p.r2.size) && (decide (((parseP (turnS p ta.toNat i)).1.r3.way) = p.r3.way) && (decide (((parseP (turnS p ta.toNat i)).1.r3.size) = p.r3.size) && (decide (((parseP (turnS p ta.toNat i)).1.r4.way) = p.r4.way) && (decide (((parseP (turnS p ta.toNat i)).1.r4.size) = p.r4.size) && (decide (((parseP (turnS p ta.toNat i)).1.time) = p.time) && (decide (((parseP (turnS p ta.toNat i)).1.note) = p.note) && (((parseP (turnS p ta.toNat i)).1.loose) == p.loose && (((parseP (turnS p ta.toNat i)).1.force) == p.force && true)))))))))))))) HE rfl rfl rfl T.Q26 rfl rfl ?_; clear HE; intro a HE
              refine o_pick_t HE rfl rfl hb51 rfl ?_; clear HE; intro a HE
              exact ⟨rfl, HE.cut ⟨by rw [hb51]; rfl, rfl, rfl, rfl, rfl, rfl, rfl, rfl, rfl, rfl, rfl, rfl, rfl, rfl, rfl, rfl, rfl, rfl, rfl, rfl, rfl, rfl, rfl, rfl, rfl, rfl, rfl, rfl, rfl, rfl, rfl, rfl, rfl, rfl, trivial⟩⟩
            · skip
              have hk53 := hb51; try simp only [Bool.not_eq_true', Bool.not_eq_false', Bool.and_eq_true, Bool.or_eq_true, Bool.or_eq_false_iff, decide_eq_true_eq, decide_eq_false_iff_not, beq_iff_eq, beq_eq_false_iff_ne, ne_eq] at hk53
              refine g_off HE rfl rfl rfl hb51 ?_; clear HE; intro a HE
              refine g_off HE rfl rfl rfl hb51 ?_; clear HE; intro a HE
              refine g_off HE rfl rfl rfl hb51 ?_; clear HE; intro a HE
              refine o_pick_f HE rfl rfl hb51 rfl ?_; clear HE; intro a HE
              exact ⟨rfl, HE.cut ⟨by rw [hb51]; rfl, rfl, rfl, rfl, rfl, rfl, rfl, rfl, rfl, rfl, rfl, rfl, rfl, rfl, rfl, rfl, rfl, rfl, rfl, rfl, rfl, rfl, rfl, rfl, rfl, rfl, rfl, rfl, rfl, rfl, rfl, rfl, rfl, rfl, trivial⟩⟩
          clear HE; rintro a _ ⟨rfl, HE⟩
          refine o_move HE rfl rfl ?_; clear HE; intro a HE
          refine cutL 7 (fun a' w' => w = w' ∧ Env a' 102 [] [(96, .bool (((decide ((failC (parseP (turnS p ta.toNat i)).2) = 0) && (decide (((parseP (turnS p ta.toNat i)).2) = 0) && true)) && (decide (((parseP (turnS p ta.toNat i)).1.r0.way) = p.r0.way) && (decide (((parseP (turnS p ta.toNat i)).1.r0.size) = p.r0.size) && (decide (((parseP (turnS p ta.toNat i)).1.r1.way) = p.r1.way) && (decide (((parseP (turnS p ta.toNat i)).1.r1.size) = p.r1.size) && (decide (((parseP (turnS p ta.toNat i)).1.r2.way) = p.r2.way) && (decide (((parseP (turnS p ta.toNat i)).1.r2.size) = p.r2.size) && (decide (((parseP (turnS p ta.toNat i)).1.r3.way) = p.r3.way) && (decide (((parseP (turnS p ta.toNat i)).1.r3.size) = p.r3.size) && (decide (((parseP (turnS p ta.toNat i)).1.r4.way) = p.r4.way) && (decide (((parseP (turnS p ta.toNat i)).1.r4.size) = p.r4.size) && (decide (((parseP (turnS p ta.toNat i)).1.time) = p.time) && (decide (((parseP (turnS p ta.toNat i)).1.note) = p.note) && (((parseP (turnS p ta.toNat i)).1.loose) == p.loose && (((parseP (turnS p ta.toNat i)).1.force) == p.force && true))))))))))))))) && (decide ((failC (parseP ((turnS p ta.toNat i) ++ x49)).2) = 6) && (decide (((parseP ((turnS p ta.toNat i) ++ x49)).2) = (((piecesP p).length : Int) + 1)) && true)))), (1, .int .u8 ta), (2, .int .u8 tb), (3, .pointer (some ⟨B3, 0, none⟩)), (6, .bool false), (7, .slice (some ⟨eb49, eo49, none⟩) ((piecesP p).length) oc7_1), (11, str (turnS p ta.toNat i)), (13, .pointer (some ⟨B13, 0, none⟩)), (14, .pointer (some ⟨B14, 0, none⟩)), (15, .pointer (some ⟨B15, 0, none⟩)), (16, .pointer (some ⟨B16, 0, none⟩)), (44, .slice (some ⟨eb49, eo49, none⟩) ((piecesP p).length) oc7_1), (45, .int .i64 ((piecesP p).length : Int)), (46, .int .i64 ((i : Nat) : Int)), (47, .bool (decide (((i : Nat) : Int) < ((piecesP p).length : Int)))), (62, .tuple #[.agg #[.int .i64 ((parseP (turnS p ta.toNat i)).1.r0.way), .int .i64 ((parseP (turnS p ta.toNat i)).1.r0.size), .int .i64 ((parseP (turnS p ta.toNat i)).1.r1.way), .int .i64 ((parseP (turnS p ta.toNat i)).1.r1.size), .int .i64 ((parseP (turnS p ta.toNat i)).1.r2.way), .int .i64 ((parseP (turnS p ta.toNat i)).1.r2.size), .int .i64 ((parseP (turnS p ta.toNat i)).1.r3.way), .int .i64 ((parseP (turnS p ta.toNat i)).1.r3.size), .int .i64 ((parseP (turnS p ta.toNat i)).1.r4.way), .int .i64 ((parseP (turnS p ta.toNat i)).1.r4.size), .int .i64 ((parseP (turnS p ta.toNat i)).1.time), .int .i64 ((parseP (turnS p ta.toNat i)).1.note), .bool ((parseP (turnS p ta.toNat i)).1.loose), .bool ((parseP (turnS p ta.toNat i)).1.force)], .agg #[.int .i64 (failC (parseP (turnS p ta.toNat i)).2), .int .i64 ((parseP (turnS p ta.toNat i)).2)]]), (63, str (turnS p ta.toNat i)), (64, .tuple #[.agg #[.int .i64 ((parseP (turnS p ta.toNat i)).1.r0.way), .int .i64 ((parseP (turnS p ta.toNat i)).1.r0.size), .int .i64 ((parseP (turnS p ta.toNat i)).1.r1.way), .int .i64 ((parseP (turnS p ta.toNat i)).1.r1.size), .int .i64 ((parseP (turnS p ta.toNat i)).1.r2.way), .int .i64 ((parseP (turnS p ta.toNat i)).1.r2.size), .int .i64 ((parseP (turnS p ta.toNat i)).1.r3.way), .int .i64 ((parseP (turnS p ta.toNat i)).1.r3.size), .int .i64 ((parseP (turnS p ta.toNat i)).1.r4.way), .int .i64 ((parseP (turnS p ta.toNat i)).1.r4.size), .int .i64 ((parseP (turnS p ta.toNat i)).1.time), .int .i64 ((parseP (turnS p ta.toNat i)).1.note), .bool ((parseP (turnS p ta.toNat i)).1.loose), .bool ((parseP (turnS p ta.toNat i)).1.force)], .agg #[.int .i64 (failC (parseP (turnS p ta.toNat i)).2), .int .i64 ((parseP (turnS p ta.toNat i)).2)]]), (65, .agg #[.int .i64 ((parseP (turnS p ta.toNat i)).1.r0.way), .int .i64 ((parseP (turnS p ta.toNat i)).1.r0.size), .int .i64 ((parseP (turnS p ta.toNat i)).1.r1.way), .int .i64 ((parseP (turnS p ta.toNat i)).1.r1.size), .int .i64 ((parseP (turnS p ta.toNat i)).1.r2.way), .int .i64 ((parseP (turnS p ta.toNat i)).1.r2.size), .int .i64 ((parseP (turnS p ta.toNat i)).1.r3.way), .int .i64 ((parseP (turnS p ta.toNat i)).1.r3.size), .int .i64 ((parseP (turnS p ta.toNat i)).1.r4.way), .int .i64 ((parseP (turnS p ta.toNat i)).1.r4.size), .int .i64 ((parseP (turnS p ta.toNat i)).1.time), .int .i64 ((parseP (turnS p ta.toNat i)).1.note), .bool ((parseP (turnS p ta.toNat i)).1.loose), .bool ((parseP (turnS p ta.toNat i)).1.force)]), (66, .agg #[.int .i64 (failC (parseP (turnS p ta.toNat i)).2), .int .i64 ((parseP (turnS p ta.toNat i)).2)]), (67, .tuple #[.agg #[.int .i64 ((parseP ((turnS p ta.toNat i) ++ x49)).1.r0.way), .int .i64 ((parseP ((turnS p ta.toNat i) ++ x49)).1.r0.size), .int .i64 ((parseP ((turnS p ta.toNat i) ++ x49)).1.r1.way), .int .i64 ((parseP ((turnS p ta.toNat i) ++ x49)).1.r1.size), .int .i64 ((parseP ((turnS p ta.toNat i) ++ x49)).1.r2.way), .int .i64 ((parseP ((turnS p ta.toNat i) ++ x49)).1.r2.size), .int .i64 ((parseP ((turnS p ta.toNat i) ++ x49)).1.r3.way), .int .i64 ((parseP ((turnS p ta.toNat i) ++ x49)).1.r3.size), .int .i64 ((parseP ((turnS p ta.toNat i) ++ x49)).1.r4.way), .int .i64 ((parseP ((turnS p ta.toNat i) ++ x49)).1.r4.size), .int .i64 ((parseP ((turnS p ta.toNat i) ++ x49)).1.time), .int .i64 ((parseP ((turnS p ta.toNat i) ++ x49)).1.note), .bool ((parseP ((turnS p ta.toNat i) ++ x49)).1.loose), .bool ((parseP ((turnS p ta.toNat i) ++ x49)).1.force)], .agg #[.int .i64 (failC (parseP ((turnS p ta.toNat i) ++ x49)).2), .int .i64 ((parseP ((turnS p ta.toNat i) ++ x49)).2)]]), (68, str (turnS p ta.toNat i)), (69, .slice (some ⟨eb49, eo49, none⟩) ((piecesP p).length) oc7_1), (70, .int .u8 tb), (71, .int .i64 tb), (72, .slice (some ⟨eb49, eo49, none⟩) ((piecesP p).length) oc7_1), (73, .int .i64 ((piecesP p).length : Int)), (74, .int .i64 ((m74 : Nat) : Int)), (75, .pointer (some ⟨eb49, eo49 + ((m74 : Nat) : Int).toNat * 1, none⟩)), (76, str x49), (77, str ((turnS p ta.toNat i) ++ x49)), (78, .tuple #[.agg #[.int .i64 ((parseP ((turnS p ta.toNat i) ++ x49)).1.r0.way), .int .i64 ((parseP ((turnS p ta.toNat i) ++ x49)).1.r0.size), .int .i64 ((parseP ((turnS p ta.toNat i) ++ x49)).1.r1.way), .int .i64 ((parseP ((turnS p ta.toNat i) ++ x49)).1.r1.size), .int .i64 ((parseP ((turnS p ta.toNat i) ++ x49)).1.r2.way), .int .i64 ((parseP ((turnS p ta.toNat i) ++ x49)).1.r2.size), .int .i64 ((parseP ((turnS p ta.toNat i) ++ x49)).1.r3.way), .int .i64 ((parseP ((turnS p ta.toNat i) ++ x49)).1.r3.size), .int .i64 ((parseP ((turnS p ta.toNat i) ++ x49)).1.r4.way), .int .i64 ((parseP ((turnS p ta.toNat i) ++ x49)).1.r4.size), .int .i64 ((parseP ((turnS p ta.toNat i) ++ x49)).1.time), .int .i64 ((parseP ((turnS p ta.toNat i) ++ x49)).1.note), .bool ((parseP ((turnS p ta.toNat i) ++ x49)).1.loose), .bool ((parseP ((turnS p ta.toNat i) ++ x49)).1.force)], .agg #[.int .i64 (failC (parseP ((turnS p ta.toNat i) ++ x49)).2), .int .i64 ((parseP ((turnS p ta.toNat i) ++ x49)).2)]]), (79, .agg #[.int .i64 ((parseP ((turnS p ta.toNat i) ++ x49)).1.r0.way), .int .i64 ((parseP ((turnS p ta.toNat i) ++ x49)).1.r0.size), .int .i64 ((parseP ((turnS p ta.toNat i) ++ x49)).1.r1.way), .int .i64 ((parseP ((turnS p ta.toNat i) ++ x49)).1.r1.size), .int .i64 ((parseP ((turnS p ta.toNat i) ++ x49)).1.r2.way), .int .i64 ((parseP ((turnS p ta.toNat i) ++ x49)).1.r2.size), .int .i64 ((parseP ((turnS p ta.toNat i) ++ x49)).1.r3.way), .int .i64 ((parseP ((turnS p ta.toNat i) ++ x49)).1.r3.size), .int .i64 ((parseP ((turnS p ta.toNat i) ++ x49)).1.r4.way), .int .i64 ((parseP ((turnS p ta.toNat i) ++ x49)).1.r4.size), .int .i64 ((parseP ((turnS p ta.toNat i) ++ x49)).1.time), .int .i64 ((parseP ((turnS p ta.toNat i) ++ x49)).1.note), .bool ((parseP ((turnS p ta.toNat i) ++ x49)).1.loose), .bool ((parseP ((turnS p ta.toNat i) ++ x49)).1.force)]), (80, .agg #[.int .i64 (failC (parseP ((turnS p ta.toNat i) ++ x49)).2), .int .i64 ((parseP ((turnS p ta.toNat i) ++ x49)).2)])]) ?_ ?_
          · refine (Bool.eq_false_or_eq_true ((decide ((failC (parseP (turnS p ta.toNat i)).2) = 0) && (decide (((parseP (turnS p ta.toNat i)).2) = 0) && true)) && (decide (((parseP (turnS p ta.toNat i)).1.r0.way) = p.r0.way) && (decide (((parseP (turnS p ta.toNat i)).1.r0.size) = p.r0.size) && (decide (((parseP (turnS p ta.toNat i)).1.r1.way) = p.r1.way) && (decide (((parseP (turnS p ta.toNat i)).1.r1.size) = p.r1.size) && (decide (((parseP (turnS p ta.toNat i)).1.r2.way) = p.r2.way) && (decide (((parseP (turnS p ta.toNat i)).1.r2.size) = p.r2.size) && (decide (((parseP (turnS p ta.toNat i)).1.r3.way) = p.r3.way) && (decide (((parseP (turnS p ta.toNat i)).1.r3.size) = p.r3.size) && (decide (((parseP (turnS p ta.toNat i)).1.r4.way) = p.r4.way) && (decide (((parseP (turnS p ta.toNat i)).1.r4.size) = p.r4.size) && (decide (((parseP (turnS p ta.toNat i)).1.time) = p.time) && (decide (((parseP (turnS p ta.toNat i)).1.note) = p.note) && (((parseP (turnS p ta.toNat i)).1.loose) == p.loose && (((parseP (turnS p ta.toNat i)).1.force) == p.force && true)))))))))))))))).elim (fun hb54 => ?_) (fun hb54 => ?_)
            · skip
              have hk55 := hb54; try simp only [Bool.not_eq_true', Bool.not_eq_false', Bool.and_eq_true, Bool.or_eq_true, Bool.or_eq_false_iff, decide_eq_true_eq, decide_eq_false_iff_not, beq_iff_eq, beq_eq_false_iff_ne, ne_eq] at hk55
              refine op_on HE rfl rfl hb54 ?_
              refine o_ldA HE rfl HS rfl T.a33 (.here .here) rfl ?_; clear HE; intro a HE
              refine op_on HE rfl rfl hb54 ?_
              refine o_move HE rfl rfl ?_; clear HE; intro a HE
              refine op_on HE rfl rfl hb54 ?_
              refine o_lenL HE rfl rfl Tryd.underlying29 ?_; clear HE; intro a HE
              refine op_on HE rfl rfl hb54 ?_
              refine o_add HE rfl rfl rfl (by omega) ?_; clear HE; intro a HE
              refine op_on HE rfl rfl hb54 ?_
              refine o_build (cs := #[.int .i64 6, .int .i64 (((piecesP p).length : Int) + 1)]) HE rfl rfl (by kernel_rfl) ?_; clear HE; intro a HE
              refine op_on HE rfl rfl hb54 ?_
              refine o_eqA (b := decide ((failC (parseP ((turnS p ta.toNat i) ++ x49)).2) = 6) && (decide (((parseP ((turnS p ta.toNat i) ++ x49)).2) = (((piecesP p).length : Int) + 1)) && true)) HE rfl rfl rfl T.q33 rfl rfl ?_; clear HE; intro a HE
              refine o_pick_t HE rfl rfl hb54 rfl ?_; clear HE; intro a HE
              exact ⟨rfl, HE.cut ⟨by rw [hb54]; rfl, rfl, rfl, rfl, rfl, rfl, rfl, rfl, rfl, rfl, rfl, rfl, rfl, rfl, rfl, rfl, rfl, rfl, rfl, rfl, rfl, rfl, rfl, rfl, rfl, rfl, rfl, rfl, rfl, rfl, rfl, rfl, rfl, rfl, trivial⟩⟩
            · skip
              have hk56 := hb54; try simp only [Bool.not_eq_true', Bool.not_eq_false', Bool.and_eq_true, Bool.or_eq_true, Bool.or_eq_false_iff, decide_eq_true_eq, decide_eq_false_iff_not, beq_iff_eq, beq_eq_false_iff_ne, ne_eq] at hk56
              refine g_off HE rfl rfl rfl hb54 ?_; clear HE; intro a HE
              refine g_off HE rfl rfl rfl hb54 ?_; clear HE; intro a HE
              refine g_off HE rfl rfl rfl hb54 ?_; clear HE; intro a HE
              refine g_off HE rfl rfl rfl hb54 ?_; clear HE; intro a HE
              refine g_off HE rfl rfl rfl hb54 ?_; clear HE; intro a HE
              refine g_off HE rfl rfl rfl hb54 ?_; clear HE; intro a HE
              refine o_pick_f HE rfl rfl hb54 rfl ?_; clear HE; intro a HE
              exact ⟨rfl, HE.cut ⟨by rw [hb54]; rfl, rfl, rfl, rfl, rfl, rfl, rfl, rfl, rfl, rfl, rfl, rfl, rfl, rfl, rfl, rfl, rfl, rfl, rfl, rfl, rfl, rfl, rfl, rfl, rfl, rfl, rfl, rfl, rfl, rfl, rfl, rfl, rfl, rfl, trivial⟩⟩
          clear HE; rintro a _ ⟨rfl, HE⟩
          refine o_move HE rfl rfl ?_; clear HE; intro a HE
          refine cutL 4 (fun a' w' => w = w' ∧ Env a' 102 [] [(101, .bool ((((decide ((failC (parseP (turnS p ta.toNat i)).2) = 0) && (decide (((parseP (turnS p ta.toNat i)).2) = 0) && true)) && (decide (((parseP (turnS p ta.toNat i)).1.r0.way) = p.r0.way) && (decide (((parseP (turnS p ta.toNat i)).1.r0.size) = p.r0.size) && (decide (((parseP (turnS p ta.toNat i)).1.r1.way) = p.r1.way) && (decide (((parseP (turnS p ta.toNat i)).1.r1.size) = p.r1.size) && (decide (((parseP (turnS p ta.toNat i)).1.r2.way) = p.r2.way) && (decide (((parseP (turnS p ta.toNat i)).1.r2.size) = p.r2.size) && (decide (((parseP (turnS p ta.toNat i)).1.r3.way) = p.r3.way) && (decide (((parseP (turnS p ta.toNat i)).1.r3.size) = p.r3.size) && (decide (((parseP (turnS p ta.toNat i)).1.r4.way) = p.r4.way) && (decide (((parseP (turnS p ta.toNat i)).1.r4.size) = p.r4.size) && (decide (((parseP (turnS p ta.toNat i)).1.time) = p.time) && (decide (((parseP (turnS p ta.toNat i)).1.note) = p.note) && (((parseP (turnS p ta.toNat i)).1.loose) == p.loose && (((parseP (turnS p ta.toNat i)).1.force) == p.force && true))))))))))))))) && (decide ((failC (parseP ((turnS p ta.toNat i) ++ x49)).2) = 6) && (decide (((parseP ((turnS p ta.toNat i) ++ x49)).2) = (((piecesP p).length : Int) + 1)) && true))) && (decide (((parseP ((turnS p ta.toNat i) ++ x49)).1.r0.way) = 0) && (decide (((parseP ((turnS p ta.toNat i) ++ x49)).1.r0.size) = 0) && (decide (((parseP ((turnS p ta.toNat i) ++ x49)).1.r1.way) = 0) && (decide (((parseP ((turnS p ta.toNat i) ++ x49)).1.r1.size) = 0) && (decide (((parseP ((turnS p ta.toNat i) ++ x49)).1.r2.way) = 0) && (decide (((parseP ((turnS p ta.toNat i) ++ x49)).1.r2.size) = 0) && (decide (((parseP ((turnS p ta.toNat i) ++ x49)).1.r3.way) = 0) && (decide (((parseP ((turnS p ta.toNat i) ++ x49)).1.r3.size) = 0) && (decide (((parseP ((turnS p ta.toNat i) ++ x49)).1.r4.way) = 0) && (decide (((parseP ((turnS p ta.toNat i) ++ x49)).1.r4.size) = 0) && (decide (((parseP ((turnS p ta.toNat i) ++ x49)).1.time) = 0) && (decide (((parseP ((turnS p ta.toNat i) ++ x49)).1.note) = 0) && (((parseP ((turnS p ta.toNat i) ++ x49)).1.loose) == false && (((parseP ((turnS p ta.toNat i) ++ x49)).1.force) == false && true)))))))))))))))), (1, .int .u8 ta), (2, .int .u8 tb), (3, .pointer (some ⟨B3, 0, none⟩)), (6, .bool false), (7, .slice (some ⟨eb49, eo49, none⟩) ((piecesP p).length) oc7_1), (11, str (turnS p ta.toNat i)), (13, .pointer (some ⟨B13, 0, none⟩)), (14, .pointer (some ⟨B14, 0, none⟩)), (15, .pointer (some ⟨B15, 0, none⟩)), (16, .pointer (some ⟨B16, 0, none⟩)), (44, .slice (some ⟨eb49, eo49, none⟩) ((piecesP p).length) oc7_1), (45, .int .i64 ((piecesP p).length : Int)), (46, .int .i64 ((i : Nat) : Int)), (47, .bool (decide (((i : Nat) : Int) < ((piecesP p).length : Int)))), (62, .tuple #[.agg #[.int .i64 ((parseP (turnS p ta.toNat i)).1.r0.way), .int .i64 ((parseP (turnS p ta.toNat i)).1.r0.size), .int .i64 ((parseP (turnS p ta.toNat i)).1.r1.way), .int .i64 ((parseP (turnS p ta.toNat i)).1.r1.size), .int .i64 ((parseP (turnS p ta.toNat i)).1.r2.way), .int .i64 ((parseP (turnS p ta.toNat i)).1.r2.size), .int .i64 ((parseP (turnS p ta.toNat i)).1.r3.way), .int .i64 ((parseP (turnS p ta.toNat i)).1.r3.size), .int .i64 ((parseP (turnS p ta.toNat i)).1.r4.way), .int .i64 ((parseP (turnS p ta.toNat i)).1.r4.size), .int .i64 ((parseP (turnS p ta.toNat i)).1.time), .int .i64 ((parseP (turnS p ta.toNat i)).1.note), .bool ((parseP (turnS p ta.toNat i)).1.loose), .bool ((parseP (turnS p ta.toNat i)).1.force)], .agg #[.int .i64 (failC (parseP (turnS p ta.toNat i)).2), .int .i64 ((parseP (turnS p ta.toNat i)).2)]]), (63, str (turnS p ta.toNat i)), (64, .tuple #[.agg #[.int .i64 ((parseP (turnS p ta.toNat i)).1.r0.way), .int .i64 ((parseP (turnS p ta.toNat i)).1.r0.size), .int .i64 ((parseP (turnS p ta.toNat i)).1.r1.way), .int .i64 ((parseP (turnS p ta.toNat i)).1.r1.size), .int .i64 ((parseP (turnS p ta.toNat i)).1.r2.way), .int .i64 ((parseP (turnS p ta.toNat i)).1.r2.size), .int .i64 ((parseP (turnS p ta.toNat i)).1.r3.way), .int .i64 ((parseP (turnS p ta.toNat i)).1.r3.size), .int .i64 ((parseP (turnS p ta.toNat i)).1.r4.way), .int .i64 ((parseP (turnS p ta.toNat i)).1.r4.size), .int .i64 ((parseP (turnS p ta.toNat i)).1.time), .int .i64 ((parseP (turnS p ta.toNat i)).1.note), .bool ((parseP (turnS p ta.toNat i)).1.loose), .bool ((parseP (turnS p ta.toNat i)).1.force)], .agg #[.int .i64 (failC (parseP (turnS p ta.toNat i)).2), .int .i64 ((parseP (turnS p ta.toNat i)).2)]]), (65, .agg #[.int .i64 ((parseP (turnS p ta.toNat i)).1.r0.way), .int .i64 ((parseP (turnS p ta.toNat i)).1.r0.size), .int .i64 ((parseP (turnS p ta.toNat i)).1.r1.way), .int .i64 ((parseP (turnS p ta.toNat i)).1.r1.size), .int .i64 ((parseP (turnS p ta.toNat i)).1.r2.way), .int .i64 ((parseP (turnS p ta.toNat i)).1.r2.size), .int .i64 ((parseP (turnS p ta.toNat i)).1.r3.way), .int .i64 ((parseP (turnS p ta.toNat i)).1.r3.size), .int .i64 ((parseP (turnS p ta.toNat i)).1.r4.way), .int .i64 ((parseP (turnS p ta.toNat i)).1.r4.size), .int .i64 ((parseP (turnS p ta.toNat i)).1.time), .int .i64 ((parseP (turnS p ta.toNat i)).1.note), .bool ((parseP (turnS p ta.toNat i)).1.loose), .bool ((parseP (turnS p ta.toNat i)).1.force)]), (66, .agg #[.int .i64 (failC (parseP (turnS p ta.toNat i)).2), .int .i64 ((parseP (turnS p ta.toNat i)).2)]), (67, .tuple #[.agg #[.int .i64 ((parseP ((turnS p ta.toNat i) ++ x49)).1.r0.way), .int .i64 ((parseP ((turnS p ta.toNat i) ++ x49)).1.r0.size), .int .i64 ((parseP ((turnS p ta.toNat i) ++ x49)).1.r1.way), .int .i64 ((parseP ((turnS p ta.toNat i) ++ x49)).1.r1.size), .int .i64 ((parseP ((turnS p ta.toNat i) ++ x49)).1.r2.way), .int .i64 ((parseP ((turnS p ta.toNat i) ++ x49)).1.r2.size), .int .i64 ((parseP ((turnS p ta.toNat i) ++ x49)).1.r3.way), .int .i64 ((parseP ((turnS p ta.toNat i) ++ x49)).1.r3.size), .int .i64 ((parseP ((turnS p ta.toNat i) ++ x49)).1.r4.way), .int .i64 ((parseP ((turnS p ta.toNat i) ++ x49)).1.r4.size), .int .i64 ((parseP ((turnS p ta.toNat i) ++ x49)).1.time), .int .i64 ((parseP ((turnS p ta.toNat i) ++ x49)).1.note), .bool ((parseP ((turnS p ta.toNat i) ++ x49)).1.loose), .bool ((parseP ((turnS p ta.toNat i) ++ x49)).1.force)], .agg #[.int .i64 (failC (parseP ((turnS p ta.toNat i) ++ x49)).2), .int .i64 ((parseP ((turnS p ta.toNat i) ++ x49)).2)]]), (68, str (turnS p ta.toNat i)), (69, .slice (some ⟨eb49, eo49, none⟩) ((piecesP p).length) oc7_1), (70, .int .u8 tb), (71, .int .i64 tb), (72, .slice (some ⟨eb49, eo49, none⟩) ((piecesP p).length) oc7_1), (73, .int .i64 ((piecesP p).length : Int)), (74, .int .i64 ((m74 : Nat) : Int)), (75, .pointer (some ⟨eb49, eo49 + ((m74 : Nat) : Int).toNat * 1, none⟩)), (76, str x49), (77, str ((turnS p ta.toNat i) ++ x49)), (78, .tuple #[.agg #[.int .i64 ((parseP ((turnS p ta.toNat i) ++ x49)).1.r0.way), .int .i64 ((parseP ((turnS p ta.toNat i) ++ x49)).1.r0.size), .int .i64 ((parseP ((turnS p ta.toNat i) ++ x49)).1.r1.way), .int .i64 ((parseP ((turnS p ta.toNat i) ++ x49)).1.r1.size), .int .i64 ((parseP ((turnS p ta.toNat i) ++ x49)).1.r2.way), .int .i64 ((parseP ((turnS p ta.toNat i) ++ x49)).1.r2.size), .int .i64 ((parseP ((turnS p ta.toNat i) ++ x49)).1.r3.way), .int .i64 ((parseP ((turnS p ta.toNat i) ++ x49)).1.r3.size), .int .i64 ((parseP ((turnS p ta.toNat i) ++ x49)).1.r4.way), .int .i64 ((parseP ((turnS p ta.toNat i) ++ x49)).1.r4.size), .int .i64 ((parseP ((turnS p ta.toNat i) ++ x49)).1.time), .int .i64 ((parseP ((turnS p ta.toNat i) ++ x49)).1.note), .bool ((parseP ((turnS p ta.toNat i) ++ x49)).1.loose), .bool ((parseP ((turnS p ta.toNat i) ++ x49)).1.force)], .agg #[.int .i64 (failC (parseP ((turnS p ta.toNat i) ++ x49)).2), .int .i64 ((parseP ((turnS p ta.toNat i) ++ x49)).2)]]), (79, .agg #[.int .i64 ((parseP ((turnS p ta.toNat i) ++ x49)).1.r0.way), .int .i64 ((parseP ((turnS p ta.toNat i) ++ x49)).1.r0.size), .int .i64 ((parseP ((turnS p ta.toNat i) ++ x49)).1.r1.way), .int .i64 ((parseP ((turnS p ta.toNat i) ++ x49)).1.r1.size), .int .i64 ((parseP ((turnS p ta.toNat i) ++ x49)).1.r2.way), .int .i64 ((parseP ((turnS p ta.toNat i) ++ x49)).1.r2.size), .int .i64 ((parseP ((turnS p ta.toNat i) ++ x49)).1.r3.way), .int .i64 ((parseP ((turnS p ta.toNat i) ++ x49)).1.r3.size), .int .i64 ((parseP ((turnS p ta.toNat i) ++ x49)).1.r4.way), .int .i64 ((parseP ((turnS p ta.toNat i) ++ x49)).1.r4.size), .int .i64 ((parseP ((turnS p ta.toNat i) ++ x49)).1.time), .int .i64 ((parseP ((turnS p ta.toNat i) ++ x49)).1.note), .bool ((parseP ((turnS p ta.toNat i) ++ x49)).1.loose), .bool ((parseP ((turnS p ta.toNat i) ++ x49)).1.force)]), (80, .agg #[.int .i64 (failC (parseP ((turnS p ta.toNat i) ++ x49)).2), .int .i64 ((parseP ((turnS p ta.toNat i) ++ x49)).2)])]) ?_ ?_
          · refine (Bool.eq_false_or_eq_true (((decide ((failC (parseP (turnS p ta.toNat i)).2) = 0) && (decide (((parseP (turnS p ta.toNat i)).2) = 0) && true)) && (decide (((parseP (turnS p ta.toNat i)).1.r0.way) = p.r0.way) && (decide (((parseP (turnS p ta.toNat i)).1.r0.size) = p.r0.size) && (decide (((parseP (turnS p ta.toNat i)).1.r1.way) = p.r1.way) && (decide (((parseP (turnS p ta.toNat i)).1.r1.size) = p.r1.size) && (decide (((parseP (turnS p ta.toNat i)).1.r2.way) = p.r2.way) && (decide (((parseP (turnS p ta.toNat i)).1.r2.size) = p.r2.size) && (decide (((parseP (turnS p ta.toNat i)).1.r3.way) = p.r3.way) && (decide (((parseP (turnS p ta.toNat i)).1.r3.size) = p.r3.size) && (decide (((parseP (turnS p ta.toNat i)).1.r4.way) = p.r4.way) && (decide (((parseP (turnS p ta.toNat i)).1.r4.size) = p.r4.size) && (decide (((parseP (turnS p ta.toNat i)).1.time) = p.time) && (decide (((parseP (turnS p ta.toNat i)).1.note) = p.note) && (((parseP (turnS p ta.toNat i)).1.loose) == p.loose && (((parseP (turnS p ta.toNat i)).1.force) == p.force && true))))))))))))))) && (decide ((failC (parseP ((turnS p ta.toNat i) ++ x49)).2) = 6) && (decide (((parseP ((turnS p ta.toNat i) ++ x49)).2) = (((piecesP p).length : Int) + 1)) && true)))).elim (fun hb57 => ?_) (fun hb57 => ?_)
            · skip
              have hk58 := hb57; try simp only [Bool.not_eq_true', Bool.not_eq_false', Bool.and_eq_true, Bool.or_eq_true, Bool.or_eq_false_iff, decide_eq_true_eq, decide_eq_false_iff_not, beq_iff_eq, beq_eq_false_iff_ne, ne_eq] at hk58
              refine op_on HE rfl rfl hb57 ?_
              refine o_ldA HE rfl HS rfl T.a26 (.there (.here .here)) rfl ?_; clear HE; intro a HE
              refine op_on HE rfl rfl hb57 ?_
              refine o_build (cs := #[.int .i64 0, .int .i64 0, .int .i64 0, .int .i64 0, .int .i64 0, .int .i64 0, .int .i64 0, .int .i64 0, .int .i64 0, .int .i64 0, .int .i64 0, .int .i64 0, .bool false, .bool false]) HE rfl rfl (by kernel_rfl) ?_; clear HE; intro a HE
              refine op_on HE rfl rfl hb57 ?_
              refine o_eqG (b := decide (((parseP ((turnS p ta.toNat i) ++ x49)).1.r0.way) = 0) && (decide (((parseP ((turnS p ta.toNat i) ++ x49)).1.r0.size) = 0) && (decide (((parseP ((turnS p ta.toNat i) ++ x49)).1.r1.way) = 0) && (decide (((parseP ((turnS p ta.toNat i) ++ x49)).1.r1.size) = 0) && (decide (((parseP ((turnS p ta.toNat i) ++ x49)).1.r2.way) = 0) && (decide (((parseP ((turnS p ta.toNat i) ++ x49)).1.r2.size) = 0) && (decide (((parseP ((turnS p ta.toNat i) ++ x49)).1.r3.way) = 0) && (decide (((parseP ((turnS p ta.toNat i) ++ x49)).1.r3.size) = 0) && (decide (((parseP ((turnS p ta.toNat i) ++ x49)).1.r4.way) = 0) && (decide (((parseP ((turnS p ta.toNat i) ++ x49)).1.r4.size) = 0) && (decide (((parseP ((turnS p ta.toNat i) ++ x49)).1.time) = 0) && (decide (((parseP ((turnS p ta.toNat i) ++ x49)).1.note) = 0) && (((parseP ((turnS p ta.toNat i) ++ x49)).1.loose) == false && (((parseP ((turnS p ta.toNat i) ++ x49)).1.force) == false && true)))))))))))))) HE rfl rfl rfl T.Q26 rfl rfl ?_; clear HE; intro a HE
              refine o_pick_t HE rfl rfl hb57 rfl ?_; clear HE; intro a HE
              exact ⟨rfl, HE.cut ⟨by rw [hb57]; rfl, rfl, rfl, rfl, rfl, rfl, rfl, rfl, rfl, rfl, rfl, rfl, rfl, rfl, rfl, rfl, rfl, rfl, rfl, rfl, rfl, rfl, rfl, rfl, rfl, rfl, rfl, rfl, rfl, rfl, rfl, rfl, rfl, rfl, trivial⟩⟩
            · skip
              have hk59 := hb57; try simp only [Bool.not_eq_true', Bool.not_eq_false', Bool.and_eq_true, Bool.or_eq_true, Bool.or_eq_false_iff, decide_eq_true_eq, decide_eq_false_iff_not, beq_iff_eq, beq_eq_false_iff_ne, ne_eq] at hk59
              refine g_off HE rfl rfl rfl hb57 ?_; clear HE; intro a HE
              refine g_off HE rfl rfl rfl hb57 ?_; clear HE; intro a HE
              refine g_off HE rfl rfl rfl hb57 ?_; clear HE; intro a HE
              refine o_pick_f HE rfl rfl hb57 rfl ?_; clear HE; intro a HE
              exact ⟨rfl, HE.cut ⟨by rw [hb57]; rfl, rfl, rfl, rfl, rfl, rfl, rfl, rfl, rfl, rfl, rfl, rfl, rfl, rfl, rfl, rfl, rfl, rfl, rfl, rfl, rfl, rfl, rfl, rfl, rfl, rfl, rfl, rfl, rfl, rfl, rfl, rfl, rfl, rfl, trivial⟩⟩
          clear HE; rintro a _ ⟨rfl, HE⟩
          refine o_assign HE rfl rfl ?_; clear HE; intro a HE
          refine hK _ _ ?_; clear hK K
          refine wp_ret ?_
          show Q .ret _ _
          refine ret hQ HE rfl (HE.res rfl .nil) ⟨_, _, HS.stop (List.nil_sublist _), rfl, ?_⟩
          have hi9 : i = (keysP p).length := by omega
          subst hi9
          have e1 := turn_parse hp ta.toNat
          have e2 := turn_twice hp ta.toNat (piece_len hp hk77).2
          rw [← hx77] at e2
          show _ = _
          simp only [packed, Value.bool.injEq]
          rw [e1, e2]
          have e6 : failC (((keysP p).length : Int) + 1) = 6 := if_neg (by omega)
          rw [e6]
          simp [failC, P0, hpl]

/-! `incognito/incognitolaw25.PolicyKeeps` -/
set_option maxRecDepth 100000 in
set_option maxHeartbeats 4000000 in
theorem law_PolicyKeeps (p : Pol) (w0 : World) (G : Heap) (hG : Sub G w0) (m8 : Int) (h8 : CellsAt G 8 0 [.int .i64 m8]) (hgw : CellsAt G 1 0 [str [107, 101, 101, 112], str [111, 114, 100, 105, 110, 97, 108], str [107, 101, 121, 101, 100], str [114, 97, 110, 107], str [100, 114, 111, 112]]) (hgd : CellsAt G 0 0 [str [99, 108, 105, 101, 110, 116], str [111, 98, 106, 101, 99, 116], str [118, 97, 108, 117, 101], str [102, 105, 101, 108, 100], str [111, 114, 100, 101, 114]]):
    Calls Tryd.prog 4 #[.agg #[.int .i64 p.r0.way, .int .i64 p.r0.size, .int .i64 p.r1.way, .int .i64 p.r1.size, .int .i64 p.r2.way, .int .i64 p.r2.size, .int .i64 p.r3.way, .int .i64 p.r3.size, .int .i64 p.r4.way, .int .i64 p.r4.size, .int .i64 p.time, .int .i64 p.note, .bool p.loose, .bool p.force]] w0 (Ret w0 G (fun v _ => v = .bool true)) := by
  refine enter Tryd.func4 rfl Tryd.ntmps4 rfl ?_
  intro Q hQ a HE
  have HS := St.start0 hG
  refine wp_seq_k (fun K hK => ?_); refine wp_region_lit ?_
  refine o_boxL [(0, _), (1, _), (2, _), (3, _), (4, _), (5, _), (6, _), (7, _), (8, _), (9, _), (10, _), (11, _), (12, _), (13, _)] HE rfl HS rfl ⟨rfl, rfl, rfl, rfl, rfl, rfl, rfl, rfl, rfl, rfl, rfl, rfl, rfl, rfl, trivial⟩ ?_; clear HE HS; intro B1 w a HS HE
  refine o_assign HE rfl rfl ?_; clear HE; intro a HE
  refine hK _ _ ?_; clear hK K
  refine wp_seq_k (fun K3 hK2 => ?_)
  refine wp_seq_k (fun K hK => ?_); refine wp_region_lit ?_
  refine o_callP HE rfl HS rfl rfl T.g14 (c_wakes25 _ _ HS.sub m8 h8 hgw hgd) ?_
  clear HE HS; rintro _ w a HS rfl HE
  refine o_not HE rfl rfl ?_; clear HE; intro a HE
  refine hK _ _ ?_; clear hK K
  refine cond HE rfl (fun h5 => ?_) (fun h5 => ?_)
  · have h5r := h5; try simp only [Bool.not_eq_true', Bool.not_eq_false', Bool.and_eq_true, Bool.or_eq_true, Bool.or_eq_false_iff, Bool.and_eq_false_iff, decide_eq_true_eq, decide_eq_false_iff_not, beq_iff_eq, beq_eq_false_iff_ne, ne_eq] at h5
    refine wp_seq_k (fun K hK => ?_); refine wp_region_lit ?_
    refine o_assign HE rfl rfl ?_; clear HE; intro a HE
    refine hK _ _ ?_; clear hK K
    refine wp_ret ?_
    show Q .ret _ _
    refine ret hQ HE rfl (HE.res rfl .nil) ⟨_, _, HS.stop (List.nil_sublist _), rfl, ?_⟩
    exact absurd h5r (by decide)
  · have h5r := h5; try simp only [Bool.not_eq_true', Bool.not_eq_false', Bool.and_eq_true, Bool.or_eq_true, Bool.or_eq_false_iff, Bool.and_eq_false_iff, decide_eq_true_eq, decide_eq_false_iff_not, beq_iff_eq, beq_eq_false_iff_ne, ne_eq] at h5
    refine wp_skip ?_
    refine hK2 _ _ ?_; clear hK2
    refine wp_seq_k (fun K8 hK7 => ?_)
    refine wp_seq_k (fun K hK => ?_); refine wp_region_lit ?_
    refine o_ldA HE rfl HS rfl T.a26 (.here .here) rfl ?_; clear HE; intro a HE
    refine o_callP HE rfl HS rfl rfl T.g15 (c_Right p _ _ HS.sub) ?_
    clear HE HS; rintro _ w a HS rfl HE
    refine o_not HE rfl rfl ?_; clear HE; intro a HE
    refine hK _ _ ?_; clear hK K
    refine cond HE rfl (fun h10 => ?_) (fun h10 => ?_)
    · have h10r := h10; try simp only [Bool.not_eq_true', Bool.not_eq_false', Bool.and_eq_true, Bool.or_eq_true, Bool.or_eq_false_iff, Bool.and_eq_false_iff, decide_eq_true_eq, decide_eq_false_iff_not, beq_iff_eq, beq_eq_false_iff_ne, ne_eq] at h10
      refine wp_seq_k (fun K hK => ?_); refine wp_region_lit ?_
      refine o_assign HE rfl rfl ?_; clear HE; intro a HE
      refine hK _ _ ?_; clear hK K
      refine wp_ret ?_
      show Q .ret _ _
      refine ret hQ HE rfl (HE.res rfl .nil) ⟨_, _, HS.stop (List.nil_sublist _), rfl, ?_⟩
      show _ = _
      rfl
    · have h10r := h10; try simp only [Bool.not_eq_true', Bool.not_eq_false', Bool.and_eq_true, Bool.or_eq_true, Bool.or_eq_false_iff, Bool.and_eq_false_iff, decide_eq_true_eq, decide_eq_false_iff_not, beq_iff_eq, beq_eq_false_iff_ne, ne_eq] at h10
      refine wp_skip ?_
      refine hK7 _ _ ?_; clear hK7
      refine wp_seq_k (fun K hK => ?_); refine wp_region_lit ?_
      refine o_ldA HE rfl HS rfl T.a26 (.here .here) rfl ?_; clear HE; intro a HE
      refine o_callP HE rfl HS rfl rfl T.g16 (c_Print25 p _ _ HS.sub) ?_
      clear HE HS; rintro _ w a HS rfl HE
      have hp : rightB p = true := by simpa using h10r
      have hpl9 := printR_len (p := p)
      refine o_assign HE rfl rfl ?_; clear HE; intro a HE
      refine hK _ _ ?_; clear hK K
      refine wp_seq_k (fun K hK => ?_); refine wp_region_lit ?_
      refine o_assign HE rfl rfl ?_; clear HE; intro a HE
      refine hK _ _ ?_; clear hK K
      refine wp_seq_k (fun K hK => ?_); refine wp_region_lit ?_
      refine o_assign HE rfl rfl ?_; clear HE; intro a HE
      refine hK _ _ ?_; clear hK K
      refine wp_seq_k (fun K16 hK15 => ?_)
      refine wp_seq_k (fun K hK => ?_); refine wp_region_lit ?_
      refine o_move HE rfl rfl ?_; clear HE; intro a HE
      refine o_lenS HE rfl rfl Tryd.underlying9 ?_; clear HE; intro a HE
      refine o_move HE rfl rfl ?_; clear HE; intro a HE
      refine hK _ _ ?_; clear hK K
      refine wp_block ?_
      refine loop (fun (q : Nat × Nat) a' w' => St w0 G [] G w' [[(B1, Cells 26 [(0, .int .i64 p.r0.way), (1, .int .i64 p.r0.size), (2, .int .i64 p.r1.way), (3, .int .i64 p.r1.size), (4, .int .i64 p.r2.way), (5, .int .i64 p.r2.size), (6, .int .i64 p.r3.way), (7, .int .i64 p.r3.size), (8, .int .i64 p.r4.way), (9, .int .i64 p.r4.size), (10, .int .i64 p.time), (11, .int .i64 p.note), (12, .bool p.loose), (13, .bool p.force)])]] ∧ Env a' 61 [] [(1, .pointer (some ⟨B1, 0, none⟩)), (3, str (printR p)), (4, str (keptS (pcs 10 (List.take q.1 (printR p))))), (5, .int .i64 ((q.2 : Nat) : Int)), (17, str (printR p)), (18, .int .i64 ((printR p).length : Int)), (19, .int .i64 ((q.1 : Nat) : Int))] ∧ (q.1 ≤ (printR p).length ∧ q.2 = atS 10 (printR p) q.1)) (fun (q : Nat × Nat) => (printR p).length - q.1) (0, 0) ⟨HS, HE.cut ⟨rfl, rfl, rfl, rfl, rfl, rfl, rfl, trivial⟩, ⟨Nat.zero_le _, (at_zero 10 _).symm⟩⟩ ?_
      clear HE HS; intro q a w ⟨HS, HE, ⟨hq1, hq2⟩⟩
      refine wp_seq_k (fun K hK => ?_); refine wp_region_lit ?_
      refine o_lss HE rfl rfl rfl ?_; clear HE; intro a HE
      refine hK _ _ ?_; clear hK K
      refine wp_seq_k (fun K21 hK20 => ?_)
      refine cond HE rfl (fun h22 => ?_) (fun h22 => ?_)
      · have h22r := h22; try simp only [Bool.not_eq_true', Bool.not_eq_false', Bool.and_eq_true, Bool.or_eq_true, Bool.or_eq_false_iff, Bool.and_eq_false_iff, decide_eq_true_eq, decide_eq_false_iff_not, beq_iff_eq, beq_eq_false_iff_ne, ne_eq] at h22
        refine wp_skip ?_
        refine hK20 _ _ ?_; clear hK20
        refine wp_seq_k (fun K24 hK23 => ?_)
        refine wp_block ?_
        refine wp_seq_k (fun K hK => ?_); refine wp_region_lit ?_
        refine o_move HE rfl rfl ?_; clear HE; intro a HE
        refine o_assign HE rfl rfl ?_; clear HE; intro a HE
        refine hK _ _ ?_; clear hK K
        refine wp_seq_k (fun K27 hK26 => ?_)
        refine wp_seq_k (fun K hK => ?_); refine wp_region_lit ?_
        refine o_move HE rfl rfl ?_; clear HE; intro a HE
        refine o_move HE rfl rfl ?_; clear HE; intro a HE
        refine o_index HE rfl rfl rfl Tryd.underlying9 (by omega) ?_; clear HE; intro a HE
        refine o_neI HE rfl rfl rfl ?_; clear HE; intro a HE
        refine hK _ _ ?_; clear hK K
        refine cond HE rfl (fun h29 => ?_) (fun h29 => ?_)
        · have h29r := h29; try simp only [Bool.not_eq_true', Bool.not_eq_false', Bool.and_eq_true, Bool.or_eq_true, Bool.or_eq_false_iff, Bool.and_eq_false_iff, decide_eq_true_eq, decide_eq_false_iff_not, beq_iff_eq, beq_eq_false_iff_ne, ne_eq] at h29
          refine wp_exit ?_
          refine hK23 _ _ ?_; clear hK23
          refine wp_region_lit ?_
          refine o_add HE rfl rfl rfl (by omega) ?_; clear HE; intro a HE
          refine o_move HE rfl rfl ?_; clear HE; intro a HE
          have hat : ¬ (printR p)[q.1]'(by omega) = 10 := bNo8 (by omega) (by simpa using h29)
          have hpn : q.1 + 1 ≤ (printR p).length ∧ q.2 = atS 10 (printR p) (q.1 + 1) := ⟨by omega, hq2.trans (at_miss (by omega) hat).symm⟩
          rw [← pcs_miss (by omega) hat] at HE
          exact ⟨(q.1 + 1, q.2), ⟨HS, HE.cut ⟨rfl, rfl, rfl, rfl, rfl, rfl, rfl, trivial⟩, hpn⟩, by show (printR p).length - (q.1 + 1) < _; omega⟩
        · have h29r := h29; try simp only [Bool.not_eq_true', Bool.not_eq_false', Bool.and_eq_true, Bool.or_eq_true, Bool.or_eq_false_iff, Bool.and_eq_false_iff, decide_eq_true_eq, decide_eq_false_iff_not, beq_iff_eq, beq_eq_false_iff_ne, ne_eq] at h29
          refine wp_skip ?_
          refine hK26 _ _ ?_; clear hK26
          refine wp_seq_k (fun K hK => ?_); refine wp_region_lit ?_
          refine o_move HE rfl rfl ?_; clear HE; intro a HE
          refine o_move HE rfl rfl ?_; clear HE; intro a HE
          refine o_move HE rfl rfl ?_; clear HE; intro a HE
          refine o_add HE rfl rfl rfl (by omega) ?_; clear HE; intro a HE
          refine o_sliceS HE rfl rfl rfl rfl Tryd.underlying9 (by (have := atS_le 10 (printR p) q.1; omega)) ?_; clear HE; intro a HE
          refine o_assign HE rfl rfl ?_; clear HE; intro a HE
          refine hK _ _ ?_; clear hK K
          refine wp_seq_k (fun K32 hK31 => ?_)
          refine wp_seq_k (fun K hK => ?_); refine wp_region_lit ?_
          refine o_move HE rfl rfl ?_; clear HE; intro a HE
          have hsl : (sub (printR p) ((q.2 : Nat) : Int) (((q.1 : Nat) : Int) + 1)).length ≤ (printR p).length := by unfold sub; rw [List.length_take, List.length_drop]; omega
          refine o_lenS HE rfl rfl Tryd.underlying9 ?_; clear HE; intro a HE
          refine o_lss HE rfl rfl rfl ?_; clear HE; intro a HE
          refine o_move HE rfl rfl ?_; clear HE; intro a HE
          refine cutL 7 (fun a' w' => w = w' ∧ Env a' 61 [] [(41, .bool ((decide (((sub (printR p) ((q.2 : Nat) : Int) (((q.1 : Nat) : Int) + 1)).length : Int) < 6)) || (!((List.drop (((sub (printR p) ((q.2 : Nat) : Int) (((q.1 : Nat) : Int) + 1)).length : Int) - 6).toNat (sub (printR p) ((q.2 : Nat) : Int) (((q.1 : Nat) : Int) + 1))) == [32, 107, 101, 101, 112, 10])))), (1, .pointer (some ⟨B1, 0, none⟩)), (3, str (printR p)), (4, str (keptS (pcs 10 (List.take q.1 (printR p))))), (5, .int .i64 ((q.2 : Nat) : Int)), (6, .int .i64 ((q.1 : Nat) : Int)), (7, str (sub (printR p) ((q.2 : Nat) : Int) (((q.1 : Nat) : Int) + 1))), (17, str (printR p)), (18, .int .i64 ((printR p).length : Int)), (19, .int .i64 ((q.1 : Nat) : Int)), (20, .bool (decide (((q.1 : Nat) : Int) < ((printR p).length : Int)))), (21, .int .i64 ((q.1 : Nat) : Int)), (22, str (printR p)), (23, .int .i64 ((q.1 : Nat) : Int)), (24, .int .u8 (bt (printR p) ((q.1 : Nat) : Int))), (25, .bool (!decide ((bt (printR p) ((q.1 : Nat) : Int)) = 10))), (26, str (printR p)), (27, .int .i64 ((q.2 : Nat) : Int)), (28, .int .i64 ((q.1 : Nat) : Int)), (29, .int .i64 (((q.1 : Nat) : Int) + 1)), (30, str (sub (printR p) ((q.2 : Nat) : Int) (((q.1 : Nat) : Int) + 1)))]) ?_ ?_
          · refine (Bool.eq_false_or_eq_true (decide (((sub (printR p) ((q.2 : Nat) : Int) (((q.1 : Nat) : Int) + 1)).length : Int) < 6))).elim (fun hb33 => ?_) (fun hb33 => ?_)
            · skip
              have hk34 := hb33; try simp only [Bool.not_eq_true', Bool.not_eq_false', Bool.and_eq_true, Bool.or_eq_true, Bool.or_eq_false_iff, decide_eq_true_eq, decide_eq_false_iff_not, beq_iff_eq, beq_eq_false_iff_ne, ne_eq] at hk34
              refine g_off HE rfl rfl rfl hb33 ?_; clear HE; intro a HE
              refine g_off HE rfl rfl rfl hb33 ?_; clear HE; intro a HE
              refine g_off HE rfl rfl rfl hb33 ?_; clear HE; intro a HE
              refine g_off HE rfl rfl rfl hb33 ?_; clear HE; intro a HE
              refine g_off HE rfl rfl rfl hb33 ?_; clear HE; intro a HE
              refine g_off HE rfl rfl rfl hb33 ?_; clear HE; intro a HE
              refine o_pick_t HE rfl rfl hb33 rfl ?_; clear HE; intro a HE
              exact ⟨rfl, HE.cut ⟨by rw [hb33]; rfl, rfl, rfl, rfl, rfl, rfl, rfl, rfl, rfl, rfl, rfl, rfl, rfl, rfl, rfl, rfl, rfl, rfl, rfl, rfl, rfl, trivial⟩⟩
            · skip
              have hk35 := hb33; try simp only [Bool.not_eq_true', Bool.not_eq_false', Bool.and_eq_true, Bool.or_eq_true, Bool.or_eq_false_iff, decide_eq_true_eq, decide_eq_false_iff_not, beq_iff_eq, beq_eq_false_iff_ne, ne_eq] at hk35
              refine op_on HE rfl rfl hb33 ?_
              refine o_move HE rfl rfl ?_; clear HE; intro a HE
              refine op_on HE rfl rfl hb33 ?_
              refine o_move HE rfl rfl ?_; clear HE; intro a HE
              refine op_on HE rfl rfl hb33 ?_
              refine o_lenS HE rfl rfl Tryd.underlying9 ?_; clear HE; intro a HE
              refine op_on HE rfl rfl hb33 ?_
              refine o_sub HE rfl rfl rfl (by omega) ?_; clear HE; intro a HE
              refine op_on HE rfl rfl hb33 ?_
              refine o_sliceLo HE rfl rfl rfl Tryd.underlying9 (by omega) ?_; clear HE; intro a HE
              refine op_on HE rfl rfl hb33 ?_
              refine o_neS HE rfl rfl rfl ?_; clear HE; intro a HE
              refine o_pick_f HE rfl rfl hb33 rfl ?_; clear HE; intro a HE
              exact ⟨rfl, HE.cut ⟨by rw [hb33]; rfl, rfl, rfl, rfl, rfl, rfl, rfl, rfl, rfl, rfl, rfl, rfl, rfl, rfl, rfl, rfl, rfl, rfl, rfl, rfl, rfl, trivial⟩⟩
          clear HE; rintro a _ ⟨rfl, HE⟩
          refine hK _ _ ?_; clear hK K
          refine cond HE rfl (fun h37 => ?_) (fun h37 => ?_)
          · have h37r := h37; try simp only [Bool.not_eq_true', Bool.not_eq_false', Bool.and_eq_true, Bool.or_eq_true, Bool.or_eq_false_iff, Bool.and_eq_false_iff, decide_eq_true_eq, decide_eq_false_iff_not, beq_iff_eq, beq_eq_false_iff_ne, ne_eq] at h37
            refine wp_region_lit ?_
            refine o_move HE rfl rfl ?_; clear HE; intro a HE
            refine o_move HE rfl rfl ?_; clear HE; intro a HE
            have hkl := kept_len (printR p) q.1
            refine o_cat HE rfl rfl rfl (by omega) ?_; clear HE; intro a HE
            refine o_assign HE rfl rfl ?_; clear HE; intro a HE
            refine hK31 _ _ ?_; clear hK31
            refine wp_region_lit ?_
            refine o_move HE rfl rfl ?_; clear HE; intro a HE
            refine o_add HE rfl rfl rfl (by omega) ?_; clear HE; intro a HE
            refine o_assign HE rfl rfl ?_; clear HE; intro a HE
            refine hK23 _ _ ?_; clear hK23
            refine wp_region_lit ?_
            refine o_add HE rfl rfl rfl (by omega) ?_; clear HE; intro a HE
            refine o_move HE rfl rfl ?_; clear HE; intro a HE
            have hat : (printR p)[q.1]'(by omega) = 10 := bAt8 (by omega) (by simpa using h29)
            have hpn : q.1 + 1 ≤ (printR p).length ∧ q.1 + 1 = atS 10 (printR p) (q.1 + 1) := ⟨by omega, (at_hit (by omega) hat).symm⟩
            have hl := sub_hit' hq2 (by omega) hat
            have hc := h37r
            rw [kept_cond hl] at hc
            have hx : keptS (pcs 10 (List.take q.1 (printR p))) ++ sub (printR p) ((q.2 : Nat) : Int) (((q.1 : Nat) : Int) + 1) = keptS (pcs 10 (List.take (q.1 + 1) (printR p))) := by rw [pcs_hit (by omega) hat, kept_snoc, if_neg (by simpa using hc), hl]
            rw [hx] at HE
            exact ⟨(q.1 + 1, q.1 + 1), ⟨HS, HE.cut ⟨rfl, rfl, rfl, rfl, rfl, rfl, rfl, trivial⟩, hpn⟩, by show (printR p).length - (q.1 + 1) < _; omega⟩
          · have h37r := h37; try simp only [Bool.not_eq_true', Bool.not_eq_false', Bool.and_eq_true, Bool.or_eq_true, Bool.or_eq_false_iff, Bool.and_eq_false_iff, decide_eq_true_eq, decide_eq_false_iff_not, beq_iff_eq, beq_eq_false_iff_ne, ne_eq] at h37
            refine wp_skip ?_
            refine hK31 _ _ ?_; clear hK31
            refine wp_region_lit ?_
            refine o_move HE rfl rfl ?_; clear HE; intro a HE
            refine o_add HE rfl rfl rfl (by omega) ?_; clear HE; intro a HE
            refine o_assign HE rfl rfl ?_; clear HE; intro a HE
            refine hK23 _ _ ?_; clear hK23
            refine wp_region_lit ?_
            refine o_add HE rfl rfl rfl (by omega) ?_; clear HE; intro a HE
            refine o_move HE rfl rfl ?_; clear HE; intro a HE
            have hat : (printR p)[q.1]'(by omega) = 10 := bAt8 (by omega) (by simpa using h29)
            have hpn : q.1 + 1 ≤ (printR p).length ∧ q.1 + 1 = atS 10 (printR p) (q.1 + 1) := ⟨by omega, (at_hit (by omega) hat).symm⟩
            have hl := sub_hit' hq2 (by omega) hat
            have hc := h37r
            rw [kept_cond hl] at hc
            have hx : keptS (pcs 10 (List.take q.1 (printR p))) = keptS (pcs 10 (List.take (q.1 + 1) (printR p))) := by rw [pcs_hit (by omega) hat, kept_snoc, if_pos (by simpa using hc)]
            rw [hx] at HE
            exact ⟨(q.1 + 1, q.1 + 1), ⟨HS, HE.cut ⟨rfl, rfl, rfl, rfl, rfl, rfl, rfl, trivial⟩, hpn⟩, by show (printR p).length - (q.1 + 1) < _; omega⟩
      · have h22r := h22; try simp only [Bool.not_eq_true', Bool.not_eq_false', Bool.and_eq_true, Bool.or_eq_true, Bool.or_eq_false_iff, Bool.and_eq_false_iff, decide_eq_true_eq, decide_eq_false_iff_not, beq_iff_eq, beq_eq_false_iff_ne, ne_eq] at h22
        refine wp_exit ?_
        refine hK15 _ _ ?_; clear hK15
        refine wp_seq_k (fun K hK => ?_); refine wp_region_lit ?_
        refine o_move HE rfl rfl ?_; clear HE; intro a HE
        have hkl := kept_len (printR p) q.1
        refine o_callP HE rfl HS rfl rfl T.g17 (c_Parse25 (keptS (pcs 10 (List.take q.1 (printR p)))) _ _ HS.sub m8 h8 hgw hgd (by first | omega | (simp; omega))) ?_
        clear HE HS; rintro _ w a HS rfl HE
        refine o_move HE rfl rfl ?_; clear HE; intro a HE
        refine o_extract HE rfl rfl rfl ?_; clear HE; intro a HE
        refine o_extract HE rfl rfl rfl ?_; clear HE; intro a HE
        refine o_allocL [(0, _), (1, _), (2, _), (3, _), (4, _), (5, _), (6, _), (7, _), (8, _), (9, _), (10, _), (11, _), (12, _), (13, _)] HE rfl HS T.z26 ⟨rfl, rfl, rfl, rfl, rfl, rfl, rfl, rfl, rfl, rfl, rfl, rfl, rfl, rfl, trivial⟩ ?_; clear HE HS; intro B8 w a HS HE
        refine o_allocL [(0, _), (1, _)] HE rfl HS T.z33 ⟨rfl, rfl, trivial⟩ ?_; clear HE HS; intro B9 w a HS HE
        refine o_stA HE HS rfl rfl rfl T.a26 (.there (.here .here)) rfl ?_; clear HS; intro w HS
        refine o_stA HE HS rfl rfl rfl T.a33 (.here .here) rfl ?_; clear HS; intro w HS
        refine hK _ _ ?_; clear hK K
        refine wp_seq_k (fun K hK => ?_); refine wp_region_lit ?_
        refine o_ldA HE rfl HS rfl T.a33 (.here .here) rfl ?_; clear HE; intro a HE
        refine o_build (cs := #[.int .i64 0, .int .i64 0]) HE rfl rfl (by kernel_rfl) ?_; clear HE; intro a HE
        refine o_eqA (b := decide ((failC (parseP (keptS (pcs 10 (List.take q.1 (printR p))))).2) = 0) && (decide (((parseP (keptS (pcs 10 (List.take q.1 (printR p))))).2) = 0) && true)) HE rfl rfl rfl T.q33 rfl rfl ?_; clear HE; intro a HE
        refine o_move HE rfl rfl ?_; clear HE; intro a HE
        refine cutL 4 (fun a' w' => w = w' ∧ Env a' 61 [] [(60, .bool ((decide ((failC (parseP (keptS (pcs 10 (List.take q.1 (printR p))))).2) = 0) && (decide (((parseP (keptS (pcs 10 (List.take q.1 (printR p))))).2) = 0) && true)) && (decide (((parseP (keptS (pcs 10 (List.take q.1 (printR p))))).1.r0.way) = p.r0.way) && (decide (((parseP (keptS (pcs 10 (List.take q.1 (printR p))))).1.r0.size) = p.r0.size) && (decide (((parseP (keptS (pcs 10 (List.take q.1 (printR p))))).1.r1.way) = p.r1.way) && (decide (((parseP (keptS (pcs 10 (List.take q.1 (printR p))))).1.r1.size) = p.r1.size) && (decide (((parseP (keptS (pcs 10 (List.take q.1 (printR p))))).1.r2.way) = p.r2.way) && (decide (((parseP (keptS (pcs 10 (List.take q.1 (printR p))))).1.r2.size) = p.r2.size) && (decide (((parseP (keptS (pcs 10 (List.take q.1 (printR p))))).1.r3.way) = p.r3.way) && (decide (((parseP (keptS (pcs 10 (List.take q.1 (printR p))))).1.r3.size) = p.r3.size) && (decide (((parseP (keptS (pcs 10 (List.take q.1 (printR p))))).1.r4.way) = p.r4.way) && (decide (((parseP (keptS (pcs 10 (List.take q.1 (printR p))))).1.r4.size) = p.r4.size) && (decide (((parseP (keptS (pcs 10 (List.take q.1 (printR p))))).1.time) = p.time) && (decide (((parseP (keptS (pcs 10 (List.take q.1 (printR p))))).1.note) = p.note) && (((parseP (keptS (pcs 10 (List.take q.1 (printR p))))).1.loose) == p.loose && (((parseP (keptS (pcs 10 (List.take q.1 (printR p))))).1.force) == p.force && true)))))))))))))))), (1, .pointer (some ⟨B1, 0, none⟩)), (3, str (printR p)), (4, str (keptS (pcs 10 (List.take q.1 (printR p))))), (5, .int .i64 ((q.2 : Nat) : Int)), (8, .pointer (some ⟨B8, 0, none⟩)), (9, .pointer (some ⟨B9, 0, none⟩)), (17, str (printR p)), (18, .int .i64 ((printR p).length : Int)), (19, .int .i64 ((q.1 : Nat) : Int)), (20, .bool (decide (((q.1 : Nat) : Int) < ((printR p).length : Int)))), (48, .tuple #[.agg #[.int .i64 ((parseP (keptS (pcs 10 (List.take q.1 (printR p))))).1.r0.way), .int .i64 ((parseP (keptS (pcs 10 (List.take q.1 (printR p))))).1.r0.size), .int .i64 ((parseP (keptS (pcs 10 (List.take q.1 (printR p))))).1.r1.way), .int .i64 ((parseP (keptS (pcs 10 (List.take q.1 (printR p))))).1.r1.size), .int .i64 ((parseP (keptS (pcs 10 (List.take q.1 (printR p))))).1.r2.way), .int .i64 ((parseP (keptS (pcs 10 (List.take q.1 (printR p))))).1.r2.size), .int .i64 ((parseP (keptS (pcs 10 (List.take q.1 (printR p))))).1.r3.way), .int .i64 ((parseP (keptS (pcs 10 (List.take q.1 (printR p))))).1.r3.size), .int .i64 ((parseP (keptS (pcs 10 (List.take q.1 (printR p))))).1.r4.way), .int .i64 ((parseP (keptS (pcs 10 (List.take q.1 (printR p))))).1.r4.size), .int .i64 ((parseP (keptS (pcs 10 (List.take q.1 (printR p))))).1.time), .int .i64 ((parseP (keptS (pcs 10 (List.take q.1 (printR p))))).1.note), .bool ((parseP (keptS (pcs 10 (List.take q.1 (printR p))))).1.loose), .bool ((parseP (keptS (pcs 10 (List.take q.1 (printR p))))).1.force)], .agg #[.int .i64 (failC (parseP (keptS (pcs 10 (List.take q.1 (printR p))))).2), .int .i64 ((parseP (keptS (pcs 10 (List.take q.1 (printR p))))).2)]]), (49, str (keptS (pcs 10 (List.take q.1 (printR p))))), (50, .tuple #[.agg #[.int .i64 ((parseP (keptS (pcs 10 (List.take q.1 (printR p))))).1.r0.way), .int .i64 ((parseP (keptS (pcs 10 (List.take q.1 (printR p))))).1.r0.size), .int .i64 ((parseP (keptS (pcs 10 (List.take q.1 (printR p))))).1.r1.way), .int .i64 ((parseP (keptS (pcs 10 (List.take q.1 (printR p))))).1.r1.size), .int .i64 ((parseP (keptS (pcs 10 (List.take q.1 (printR p))))).1.r2.way), .int .i64 ((parseP (keptS (pcs 10 (List.take q.1 (printR p))))).1.r2.size), .int .i64 ((parseP (keptS (pcs 10 (List.take q.1 (printR p))))).1.r3.way), .int .i64 ((parseP (keptS (pcs 10 (List.take q.1 (printR p))))).1.r3.size), .int .i64 ((parseP (keptS (pcs 10 (List.take q.1 (printR p))))).1.r4.way), .int .i64 ((parseP (keptS (pcs 10 (List.take q.1 (printR p))))).1.r4.size), .int .i64 ((parseP (keptS (pcs 10 (List.take q.1 (printR p))))).1.time), .int .i64 ((parseP (keptS (pcs 10 (List.take q.1 (printR p))))).1.note), .bool ((parseP (keptS (pcs 10 (List.take q.1 (printR p))))).1.loose), .bool ((parseP (keptS (pcs 10 (List.take q.1 (printR p))))).1.force)], .agg #[.int .i64 (failC (parseP (keptS (pcs 10 (List.take q.1 (printR p))))).2), .int .i64 ((parseP (keptS (pcs 10 (List.take q.1 (printR p))))).2)]]), (51, .agg #[.int .i64 ((parseP (keptS (pcs 10 (List.take q.1 (printR p))))).1.r0.way), .int .i64 ((parseP (keptS (pcs 10 (List.take q.1 (printR p))))).1.r0.size), .int .i64 ((parseP (keptS (pcs 10 (List.take q.1 (printR p))))).1.r1.way), .int .i64 ((parseP (keptS (pcs 10 (List.take q.1 (printR p))))).1.r1.size), .int .i64 ((parseP (keptS (pcs 10 (List.take q.1 (printR p))))).1.r2.way), .int .i64 ((parseP (keptS (pcs 10 (List.take q.1 (printR p))))).1.r2.size), .int .i64 ((parseP (keptS (pcs 10 (List.take q.1 (printR p))))).1.r3.way), .int .i64 ((parseP (keptS (pcs 10 (List.take q.1 (printR p))))).1.r3.size), .int .i64 ((parseP (keptS (pcs 10 (List.take q.1 (printR p))))).1.r4.way), .int .i64 ((parseP (keptS (pcs 10 (List.take q.1 (printR p))))).1.r4.size), .int .i64 ((parseP (keptS (pcs 10 (List.take q.1 (printR p))))).1.time), .int .i64 ((parseP (keptS (pcs 10 (List.take q.1 (printR p))))).1.note), .bool ((parseP (keptS (pcs 10 (List.take q.1 (printR p))))).1.loose), .bool ((parseP (keptS (pcs 10 (List.take q.1 (printR p))))).1.force)]), (52, .agg #[.int .i64 (failC (parseP (keptS (pcs 10 (List.take q.1 (printR p))))).2), .int .i64 ((parseP (keptS (pcs 10 (List.take q.1 (printR p))))).2)])]) ?_ ?_
        · refine (Bool.eq_false_or_eq_true (decide ((failC (parseP (keptS (pcs 10 (List.take q.1 (printR p))))).2) = 0) && (decide (((parseP (keptS (pcs 10 (List.take q.1 (printR p))))).2) = 0) && true))).elim (fun hb39 => ?_) (fun hb39 => ?_)
          · skip
            have hk40 := hb39; try simp only [Bool.not_eq_true', Bool.not_eq_false', Bool.and_eq_true, Bool.or_eq_true, Bool.or_eq_false_iff, decide_eq_true_eq, decide_eq_false_iff_not, beq_iff_eq, beq_eq_false_iff_ne, ne_eq] at hk40
            refine op_on HE rfl rfl hb39 ?_
            refine o_ldA HE rfl HS rfl T.a26 (.there (.here .here)) rfl ?_; clear HE; intro a HE
            refine op_on HE rfl rfl hb39 ?_
            refine o_ldA HE rfl HS rfl T.a26 (.there (.there (.here .here))) rfl ?_; clear HE; intro a HE
            refine op_on HE rfl rfl hb39 ?_
            refine o_eqG (b := decide (((parseP (keptS (pcs 10 (List.take q.1 (printR p))))).1.r0.way) = p.r0.way) && (decide (((parseP (keptS (pcs 10 (List.take q.1 (printR p))))).1.r0.size) = p.r0.size) && (decide (((parseP (keptS (pcs 10 (List.take q.1 (printR p))))).1.r1.way) = p.r1.way) && (decide (((parseP (keptS (pcs 10 (List.take q.1 (printR p))))).1.r1.size) = p.r1.size) && (decide (((parseP (keptS (pcs 10 (List.take q.1 (printR p))))).1.r2.way) = p.r2.way) && (decide (((parseP (keptS (pcs 10 (List.take q.1 (printR p))))).1.r2.size) = p.r2.size) && (decide (((parseP (keptS (pcs 10 (List.take q.1 (printR p))))).1.r3.way) = p.r3.way) && (decide (((parseP (keptS (pcs 10 (List.take q.1 (printR p))))).1.r3.size) = p.r3.size) && (decide (((parseP (keptS (pcs 10 (List.take q.1 (printR p))))).1.r4.way) = p.r4.way) && (decide (((parseP (keptS (pcs 10 (List.take q.1 (printR p))))).1.r4.size) = p.r4.size) && (decide (((parseP (keptS (pcs 10 (List.take q.1 (printR p))))).1.time) = p.time) && (decide (((parseP (keptS (pcs 10 (List.take q.1 (printR p))))).1.note) = p.note) && (((parseP (keptS (pcs 10 (List.take q.1 (printR p))))).1.loose) == p.loose && (((parseP (keptS (pcs 10 (List.take q.1 (printR p))))).1.force) == p.force && true)))))))))))))) HE rfl rfl rfl T.Q26 rfl rfl ?_; clear HE; intro a HE
            refine o_pick_t HE rfl rfl hb39 rfl ?_; clear HE; intro a HE
            exact ⟨rfl, HE.cut ⟨by rw [hb39]; rfl, rfl, rfl, rfl, rfl, rfl, rfl, rfl, rfl, rfl, rfl, rfl, rfl, rfl, rfl, rfl, trivial⟩⟩
          · skip
            have hk41 := hb39; try simp only [Bool.not_eq_true', Bool.not_eq_false', Bool.and_eq_true, Bool.or_eq_true, Bool.or_eq_false_iff, decide_eq_true_eq, decide_eq_false_iff_not, beq_iff_eq, beq_eq_false_iff_ne, ne_eq] at hk41
            refine g_off HE rfl rfl rfl hb39 ?_; clear HE; intro a HE
            refine g_off HE rfl rfl rfl hb39 ?_; clear HE; intro a HE
            refine g_off HE rfl rfl rfl hb39 ?_; clear HE; intro a HE
            refine o_pick_f HE rfl rfl hb39 rfl ?_; clear HE; intro a HE
            exact ⟨rfl, HE.cut ⟨by rw [hb39]; rfl, rfl, rfl, rfl, rfl, rfl, rfl, rfl, rfl, rfl, rfl, rfl, rfl, rfl, rfl, rfl, trivial⟩⟩
        clear HE; rintro a _ ⟨rfl, HE⟩
        refine o_assign HE rfl rfl ?_; clear HE; intro a HE
        refine hK _ _ ?_; clear hK K
        refine wp_ret ?_
        show Q .ret _ _
        refine ret hQ HE rfl (HE.res rfl .nil) ⟨_, _, HS.stop (List.nil_sublist _), rfl, ?_⟩
        have hq9 : q.1 = (printR p).length := by omega
        show _ = _
        simp only [packed, Value.bool.injEq]
        rw [hq9, List.take_length, print_pcs hp, kept_parse hp]
        simp [failC]
end Go.Proofs.YtiinipcmghhacaaDoor.T10
