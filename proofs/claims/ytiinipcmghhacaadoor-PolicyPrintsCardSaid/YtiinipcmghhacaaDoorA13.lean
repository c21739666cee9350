/- Chapter 25 walked: the prints, the laws. -/
import Derived.Test.YtiinipcmghhacaaDoorA12
set_option linter.unusedVariables false
set_option linter.unusedSimpArgs false
namespace Go.Proofs.YtiinipcmghhacaaDoor.T10
open Go Go.Proofs.YtiinipcmghhacaaDoor.X
theorem T.c5_3 : convOk Tryd.prog 5 3 .i64 = true := by kernel_rfl
theorem T.g15 : goFn Tryd.prog 15 = true := by kernel_rfl
theorem T.g16 : goFn Tryd.prog 16 = true := by kernel_rfl
/-! `incognito/incognitoref25.Print` -/
set_option maxRecDepth 100000 in
set_option maxHeartbeats 4000000 in
theorem c_Print25 (p : Pol) (w0 : World) (G : Heap) (hG : Sub G w0) :
  Calls Tryd.prog 16 #[.agg #[.int .i64 p.r0.way, .int .i64 p.r0.size, .int .i64 p.r1.way, .int .i64 p.r1.size, .int .i64 p.r2.way, .int .i64 p.r2.size, .int .i64 p.r3.way, .int .i64 p.r3.size, .int .i64 p.r4.way, .int .i64 p.r4.size, .int .i64 p.time, .int .i64 p.note, .bool p.loose, .bool p.force]] w0 (Ret w0 G (fun v _ => v = str (printR p))) := by
 refine enter Tryd.func16 rfl Tryd.ntmps16 rfl ?_
 intro Q hQ a HE
 have HS := St.start0 hG
 refine wp_seq_k (fun K hK => ?_); refine wp_region_lit ?_
 refine o_boxL [(0, _), (1, _), (2, _), (3, _), (4, _), (5, _), (6, _), (7, _), (8, _), (9, _), (10, _), (11, _), (12, _), (13, _)] HE rfl HS rfl ⟨rfl, rfl, rfl, rfl, rfl, rfl, rfl, rfl, rfl, rfl, rfl, rfl, rfl, rfl, trivial⟩ ?_; clear HE HS; intro B1 w a HS HE
 refine o_assign HE rfl rfl ?_; clear HE; intro a HE
 refine hK _ _ ?_; clear hK K
 refine wp_seq_k (fun K3 hK2 => ?_)
 refine wp_seq_k (fun K hK => ?_); refine wp_region_lit ?_
 refine o_ldA HE rfl HS rfl T.a26 (.here .here) rfl ?_; clear HE; intro a HE
 refine o_callP HE rfl HS rfl rfl T.g15 (c_Right p _ _ HS.sub) ?_
 clear HE HS; rintro _ w a HS rfl HE
 refine o_not HE rfl rfl ?_; clear HE; intro a HE
 refine hK _ _ ?_; clear hK K
 refine cond HE rfl (fun h5 => ?_) (fun h5 => ?_)
 ·have h5r := h5; try simp only [zz1, zz2, zz3, zz4, zz5, zz6, zz7, zz8, zz9, zza, zzb] at h5
  refine wp_seq_k (fun K hK => ?_); refine wp_region_lit ?_
  refine o_assign HE rfl rfl ?_; clear HE; intro a HE
  refine hK _ _ ?_; clear hK K
  refine wp_ret ?_
  show Q .ret _ _
  refine ret hQ HE rfl (HE.res rfl .nil) ⟨_, _, HS.stop (List.nil_sublist _), rfl, ?_⟩
  have e : printR p = [] := by
   unfold printR
   rw [if_neg (by simpa using h5r)]
  show _ = _
  rw [e]
  rfl
 ·have h5r := h5; try simp only [zz1, zz2, zz3, zz4, zz5, zz6, zz7, zz8, zz9, zza, zzb] at h5
  refine wp_skip ?_
  refine hK2 _ _ ?_; clear hK2
  refine wp_seq_k (fun K hK => ?_); refine wp_region_lit ?_
  refine o_assign HE rfl rfl ?_; clear HE; intro a HE
  refine hK _ _ ?_; clear hK K
  refine wp_seq_k (fun K9 hK8 => ?_)
  refine wp_seq_k (fun K hK => ?_); refine wp_region_lit ?_
  have hp : rightB p = true := by simpa using h5r
  have hsz := right_size hp
  have hL0 : (saidS 0 (⟨p.r0.way, p.r0.size⟩ : Rul)).length ≤ 40 := (sLine_plain hp (keys_7 p 0 (by decide))).2.1
  have hL1 : (saidS 1 (⟨p.r1.way, p.r1.size⟩ : Rul)).length ≤ 40 := (sLine_plain hp (keys_7 p 1 (by decide))).2.1
  have hL2 : (saidS 2 (⟨p.r2.way, p.r2.size⟩ : Rul)).length ≤ 40 := (sLine_plain hp (keys_7 p 2 (by decide))).2.1
  have hL3 : (saidS 3 (⟨p.r3.way, p.r3.size⟩ : Rul)).length ≤ 40 := (sLine_plain hp (keys_7 p 3 (by decide))).2.1
  have hL4 : (saidS 4 (⟨p.r4.way, p.r4.size⟩ : Rul)).length ≤ 40 := (sLine_plain hp (keys_7 p 4 (by decide))).2.1
  refine o_assign HE rfl rfl ?_; clear HE; intro a HE
  refine hK _ _ ?_; clear hK K
  refine wp_block ?_
  refine wp_loop_rounds 6 ?_
  rw [rounds_succ]
  refine wp_seq_k (fun K12 hK11 => ?_)
  refine wp_seq_k (fun K hK => ?_); refine wp_region_lit ?_
  refine o_move HE rfl rfl ?_; clear HE; intro a HE
  refine o_lss HE rfl rfl rfl ?_; clear HE; intro a HE
  refine hK _ _ ?_; clear hK K
  refine cond HE rfl (fun h14 => ?_) (fun h14 => ?_)
  ·have h14r := h14; try simp only [zz1, zz2, zz3, zz4, zz5, zz6, zz7, zz8, zz9, zza, zzb] at h14
   refine wp_skip ?_
   refine hK11 _ _ ?_; clear hK11
   refine wp_seq_k (fun K16 hK15 => ?_)
   refine wp_block ?_
   refine wp_region_lit ?_
   refine o_move HE rfl rfl ?_; clear HE; intro a HE
   refine o_move HE rfl rfl ?_; clear HE; intro a HE
   refine o_move HE rfl rfl ?_; clear HE; intro a HE
   refine o_fld HE rfl rfl T.f26_0 ?_; clear HE; intro a HE
   refine o_ixA HE rfl rfl rfl T.r24 (by decide) ?_; clear HE; intro a HE
   refine o_ldA HE rfl HS rfl T.a23 (.here .here) rfl ?_; clear HE; intro a HE
   refine o_callP HE rfl HS rfl rfl T.g35 (c_said 0 (⟨p.r0.way, p.r0.size⟩ : Rul) _ _ HS.sub (by first | assumption | (constructor <;> dsimp only <;> omega))) ?_
   clear HE HS; rintro _ w a HS rfl HE
   refine o_cat HE rfl rfl rfl (by (simp; omega)) ?_; clear HE; intro a HE
   refine o_cat HE rfl rfl rfl (by (simp; omega)) ?_; clear HE; intro a HE
   refine o_assign HE rfl rfl ?_; clear HE; intro a HE
   refine hK15 _ _ ?_; clear hK15
   refine wp_region_lit ?_
   refine o_move HE rfl rfl ?_; clear HE; intro a HE
   refine o_add HE rfl rfl rfl (by omega) ?_; clear HE; intro a HE
   skip
   refine o_assign HE rfl rfl ?_; clear HE; intro a HE
   show Code.rounds _ _ _ _ _ _
   replace HE := HE.cut (L' := [(1, .pointer (some ⟨B1, 0, none⟩)), (3, str (([] ++ (saidS 0 (⟨p.r0.way, p.r0.size⟩ : Rul))) ++ [10])), (4, .int .i64 1)]) ⟨rfl, rfl, rfl, trivial⟩
   rw [rounds_succ]
   refine wp_seq_k (fun K18 hK17 => ?_)
   refine wp_seq_k (fun K hK => ?_); refine wp_region_lit ?_
   refine o_move HE rfl rfl ?_; clear HE; intro a HE
   refine o_lss HE rfl rfl rfl ?_; clear HE; intro a HE
   refine hK _ _ ?_; clear hK K
   refine cond HE rfl (fun h20 => ?_) (fun h20 => ?_)
   ·have h20r := h20; try simp only [zz1, zz2, zz3, zz4, zz5, zz6, zz7, zz8, zz9, zza, zzb] at h20
    refine wp_skip ?_
    refine hK17 _ _ ?_; clear hK17
    refine wp_seq_k (fun K22 hK21 => ?_)
    refine wp_block ?_
    refine wp_region_lit ?_
    refine o_move HE rfl rfl ?_; clear HE; intro a HE
    refine o_move HE rfl rfl ?_; clear HE; intro a HE
    refine o_move HE rfl rfl ?_; clear HE; intro a HE
    refine o_fld HE rfl rfl T.f26_0 ?_; clear HE; intro a HE
    refine o_ixA HE rfl rfl rfl T.r24 (by decide) ?_; clear HE; intro a HE
    refine o_ldA HE rfl HS rfl T.a23 (.here .here) rfl ?_; clear HE; intro a HE
    refine o_callP HE rfl HS rfl rfl T.g35 (c_said 1 (⟨p.r1.way, p.r1.size⟩ : Rul) _ _ HS.sub (by first | assumption | (constructor <;> dsimp only <;> omega))) ?_
    clear HE HS; rintro _ w a HS rfl HE
    refine o_cat HE rfl rfl rfl (by (simp; omega)) ?_; clear HE; intro a HE
    refine o_cat HE rfl rfl rfl (by (simp; omega)) ?_; clear HE; intro a HE
    refine o_assign HE rfl rfl ?_; clear HE; intro a HE
    refine hK21 _ _ ?_; clear hK21
    refine wp_region_lit ?_
    refine o_move HE rfl rfl ?_; clear HE; intro a HE
    refine o_add HE rfl rfl rfl (by omega) ?_; clear HE; intro a HE
    skip
    refine o_assign HE rfl rfl ?_; clear HE; intro a HE
    show Code.rounds _ _ _ _ _ _
    replace HE := HE.cut (L' := [(1, .pointer (some ⟨B1, 0, none⟩)), (3, str (((([] ++ (saidS 0 (⟨p.r0.way, p.r0.size⟩ : Rul))) ++ [10]) ++ (saidS 1 (⟨p.r1.way, p.r1.size⟩ : Rul))) ++ [10])), (4, .int .i64 2)]) ⟨rfl, rfl, rfl, trivial⟩
    rw [rounds_succ]
    refine wp_seq_k (fun K24 hK23 => ?_)
    refine wp_seq_k (fun K hK => ?_); refine wp_region_lit ?_
    refine o_move HE rfl rfl ?_; clear HE; intro a HE
    refine o_lss HE rfl rfl rfl ?_; clear HE; intro a HE
    refine hK _ _ ?_; clear hK K
    refine cond HE rfl (fun h26 => ?_) (fun h26 => ?_)
    ·have h26r := h26; try simp only [zz1, zz2, zz3, zz4, zz5, zz6, zz7, zz8, zz9, zza, zzb] at h26
     refine wp_skip ?_
     refine hK23 _ _ ?_; clear hK23
     refine wp_seq_k (fun K28 hK27 => ?_)
     refine wp_block ?_
     refine wp_region_lit ?_
     refine o_move HE rfl rfl ?_; clear HE; intro a HE
     refine o_move HE rfl rfl ?_; clear HE; intro a HE
     refine o_move HE rfl rfl ?_; clear HE; intro a HE
     refine o_fld HE rfl rfl T.f26_0 ?_; clear HE; intro a HE
     refine o_ixA HE rfl rfl rfl T.r24 (by decide) ?_; clear HE; intro a HE
     refine o_ldA HE rfl HS rfl T.a23 (.here .here) rfl ?_; clear HE; intro a HE
     refine o_callP HE rfl HS rfl rfl T.g35 (c_said 2 (⟨p.r2.way, p.r2.size⟩ : Rul) _ _ HS.sub (by first | assumption | (constructor <;> dsimp only <;> omega))) ?_
     clear HE HS; rintro _ w a HS rfl HE
     refine o_cat HE rfl rfl rfl (by (simp; omega)) ?_; clear HE; intro a HE
     refine o_cat HE rfl rfl rfl (by (simp; omega)) ?_; clear HE; intro a HE
     refine o_assign HE rfl rfl ?_; clear HE; intro a HE
     refine hK27 _ _ ?_; clear hK27
     refine wp_region_lit ?_
     refine o_move HE rfl rfl ?_; clear HE; intro a HE
     refine o_add HE rfl rfl rfl (by omega) ?_; clear HE; intro a HE
     skip
     refine o_assign HE rfl rfl ?_; clear HE; intro a HE
     show Code.rounds _ _ _ _ _ _
     replace HE := HE.cut (L' := [(1, .pointer (some ⟨B1, 0, none⟩)), (3, str (((((([] ++ (saidS 0 (⟨p.r0.way, p.r0.size⟩ : Rul))) ++ [10]) ++ (saidS 1 (⟨p.r1.way, p.r1.size⟩ : Rul))) ++ [10]) ++ (saidS 2 (⟨p.r2.way, p.r2.size⟩ : Rul))) ++ [10])), (4, .int .i64 3)]) ⟨rfl, rfl, rfl, trivial⟩
     rw [rounds_succ]
     refine wp_seq_k (fun K30 hK29 => ?_)
     refine wp_seq_k (fun K hK => ?_); refine wp_region_lit ?_
     refine o_move HE rfl rfl ?_; clear HE; intro a HE
     refine o_lss HE rfl rfl rfl ?_; clear HE; intro a HE
     refine hK _ _ ?_; clear hK K
     refine cond HE rfl (fun h32 => ?_) (fun h32 => ?_)
     ·have h32r := h32; try simp only [zz1, zz2, zz3, zz4, zz5, zz6, zz7, zz8, zz9, zza, zzb] at h32
      refine wp_skip ?_
      refine hK29 _ _ ?_; clear hK29
      refine wp_seq_k (fun K34 hK33 => ?_)
      refine wp_block ?_
      refine wp_region_lit ?_
      refine o_move HE rfl rfl ?_; clear HE; intro a HE
      refine o_move HE rfl rfl ?_; clear HE; intro a HE
      refine o_move HE rfl rfl ?_; clear HE; intro a HE
      refine o_fld HE rfl rfl T.f26_0 ?_; clear HE; intro a HE
      refine o_ixA HE rfl rfl rfl T.r24 (by decide) ?_; clear HE; intro a HE
      refine o_ldA HE rfl HS rfl T.a23 (.here .here) rfl ?_; clear HE; intro a HE
      refine o_callP HE rfl HS rfl rfl T.g35 (c_said 3 (⟨p.r3.way, p.r3.size⟩ : Rul) _ _ HS.sub (by first | assumption | (constructor <;> dsimp only <;> omega))) ?_
      clear HE HS; rintro _ w a HS rfl HE
      refine o_cat HE rfl rfl rfl (by (simp; omega)) ?_; clear HE; intro a HE
      refine o_cat HE rfl rfl rfl (by (simp; omega)) ?_; clear HE; intro a HE
      refine o_assign HE rfl rfl ?_; clear HE; intro a HE
      refine hK33 _ _ ?_; clear hK33
      refine wp_region_lit ?_
      refine o_move HE rfl rfl ?_; clear HE; intro a HE
      refine o_add HE rfl rfl rfl (by omega) ?_; clear HE; intro a HE
      skip
      refine o_assign HE rfl rfl ?_; clear HE; intro a HE
      show Code.rounds _ _ _ _ _ _
      replace HE := HE.cut (L' := [(1, .pointer (some ⟨B1, 0, none⟩)), (3, str (((((((([] ++ (saidS 0 (⟨p.r0.way, p.r0.size⟩ : Rul))) ++ [10]) ++ (saidS 1 (⟨p.r1.way, p.r1.size⟩ : Rul))) ++ [10]) ++ (saidS 2 (⟨p.r2.way, p.r2.size⟩ : Rul))) ++ [10]) ++ (saidS 3 (⟨p.r3.way, p.r3.size⟩ : Rul))) ++ [10])), (4, .int .i64 4)]) ⟨rfl, rfl, rfl, trivial⟩
      rw [rounds_succ]
      refine wp_seq_k (fun K36 hK35 => ?_)
      refine wp_seq_k (fun K hK => ?_); refine wp_region_lit ?_
      refine o_move HE rfl rfl ?_; clear HE; intro a HE
      refine o_lss HE rfl rfl rfl ?_; clear HE; intro a HE
      refine hK _ _ ?_; clear hK K
      refine cond HE rfl (fun h38 => ?_) (fun h38 => ?_)
      ·have h38r := h38; try simp only [zz1, zz2, zz3, zz4, zz5, zz6, zz7, zz8, zz9, zza, zzb] at h38
       refine wp_skip ?_
       refine hK35 _ _ ?_; clear hK35
       refine wp_seq_k (fun K40 hK39 => ?_)
       refine wp_block ?_
       refine wp_region_lit ?_
       refine o_move HE rfl rfl ?_; clear HE; intro a HE
       refine o_move HE rfl rfl ?_; clear HE; intro a HE
       refine o_move HE rfl rfl ?_; clear HE; intro a HE
       refine o_fld HE rfl rfl T.f26_0 ?_; clear HE; intro a HE
       refine o_ixA HE rfl rfl rfl T.r24 (by decide) ?_; clear HE; intro a HE
       refine o_ldA HE rfl HS rfl T.a23 (.here .here) rfl ?_; clear HE; intro a HE
       refine o_callP HE rfl HS rfl rfl T.g35 (c_said 4 (⟨p.r4.way, p.r4.size⟩ : Rul) _ _ HS.sub (by first | assumption | (constructor <;> dsimp only <;> omega))) ?_
       clear HE HS; rintro _ w a HS rfl HE
       refine o_cat HE rfl rfl rfl (by (simp; omega)) ?_; clear HE; intro a HE
       refine o_cat HE rfl rfl rfl (by (simp; omega)) ?_; clear HE; intro a HE
       refine o_assign HE rfl rfl ?_; clear HE; intro a HE
       refine hK39 _ _ ?_; clear hK39
       refine wp_region_lit ?_
       refine o_move HE rfl rfl ?_; clear HE; intro a HE
       refine o_add HE rfl rfl rfl (by omega) ?_; clear HE; intro a HE
       skip
       refine o_assign HE rfl rfl ?_; clear HE; intro a HE
       show Code.rounds _ _ _ _ _ _
       replace HE := HE.cut (L' := [(1, .pointer (some ⟨B1, 0, none⟩)), (3, str (((((((((([] ++ (saidS 0 (⟨p.r0.way, p.r0.size⟩ : Rul))) ++ [10]) ++ (saidS 1 (⟨p.r1.way, p.r1.size⟩ : Rul))) ++ [10]) ++ (saidS 2 (⟨p.r2.way, p.r2.size⟩ : Rul))) ++ [10]) ++ (saidS 3 (⟨p.r3.way, p.r3.size⟩ : Rul))) ++ [10]) ++ (saidS 4 (⟨p.r4.way, p.r4.size⟩ : Rul))) ++ [10])), (4, .int .i64 5)]) ⟨rfl, rfl, rfl, trivial⟩
       rw [rounds_succ]
       refine wp_seq_k (fun K42 hK41 => ?_)
       refine wp_seq_k (fun K hK => ?_); refine wp_region_lit ?_
       refine o_move HE rfl rfl ?_; clear HE; intro a HE
       refine o_lss HE rfl rfl rfl ?_; clear HE; intro a HE
       refine hK _ _ ?_; clear hK K
       refine cond HE rfl (fun h44 => ?_) (fun h44 => ?_)
       ·exact absurd h44 (by decide)
       ·have h44r := h44; try simp only [zz1, zz2, zz3, zz4, zz5, zz6, zz7, zz8, zz9, zza, zzb] at h44
        refine wp_exit ?_
        refine hK8 _ _ ?_; clear hK8
        refine wp_seq_k (fun K46 hK45 => ?_)
        refine wp_seq_k (fun K hK => ?_); refine wp_region_lit ?_
        refine o_fld HE rfl rfl T.f26_1 ?_; clear HE; intro a HE
        refine o_ld HE rfl HS rfl T.s3 (.here .here) rfl ?_; clear HE; intro a HE
        refine o_eqI HE rfl rfl rfl ?_; clear HE; intro a HE
        refine hK _ _ ?_; clear hK K
        refine cond HE rfl (fun h48 => ?_) (fun h48 => ?_)
        ·have h48r := h48; try simp only [zz1, zz2, zz3, zz4, zz5, zz6, zz7, zz8, zz9, zza, zzb] at h48
         refine wp_region_lit ?_
         refine o_move HE rfl rfl ?_; clear HE; intro a HE
         refine o_cat HE rfl rfl rfl (by (simp; omega)) ?_; clear HE; intro a HE
         refine o_assign HE rfl rfl ?_; clear HE; intro a HE
         refine hK45 _ _ ?_; clear hK45
         refine wp_seq_k (fun K50 hK49 => ?_)
         refine wp_seq_k (fun K hK => ?_); refine wp_region_lit ?_
         refine o_fld HE rfl rfl T.f26_2 ?_; clear HE; intro a HE
         refine o_ld HE rfl HS rfl T.s3 (.here .here) rfl ?_; clear HE; intro a HE
         refine o_eqI HE rfl rfl rfl ?_; clear HE; intro a HE
         refine hK _ _ ?_; clear hK K
         refine cond HE rfl (fun h52 => ?_) (fun h52 => ?_)
         ·have h52r := h52; try simp only [zz1, zz2, zz3, zz4, zz5, zz6, zz7, zz8, zz9, zza, zzb] at h52
          refine wp_region_lit ?_
          refine o_move HE rfl rfl ?_; clear HE; intro a HE
          refine o_cat HE rfl rfl rfl (by (simp; omega)) ?_; clear HE; intro a HE
          refine o_assign HE rfl rfl ?_; clear HE; intro a HE
          refine hK49 _ _ ?_; clear hK49
          refine wp_seq_k (fun K54 hK53 => ?_)
          refine wp_seq_k (fun K hK => ?_); refine wp_region_lit ?_
          refine o_fld HE rfl rfl T.f26_3 ?_; clear HE; intro a HE
          refine o_ld HE rfl HS rfl T.s4 (.here .here) rfl ?_; clear HE; intro a HE
          refine hK _ _ ?_; clear hK K
          refine cond HE rfl (fun h56 => ?_) (fun h56 => ?_)
          ·have h56r := h56; try simp only [zz1, zz2, zz3, zz4, zz5, zz6, zz7, zz8, zz9, zza, zzb] at h56
           refine wp_region_lit ?_
           refine o_move HE rfl rfl ?_; clear HE; intro a HE
           refine o_cat HE rfl rfl rfl (by (simp; omega)) ?_; clear HE; intro a HE
           refine o_assign HE rfl rfl ?_; clear HE; intro a HE
           refine hK53 _ _ ?_; clear hK53
           refine wp_seq_k (fun K58 hK57 => ?_)
           refine wp_seq_k (fun K hK => ?_); refine wp_region_lit ?_
           refine o_fld HE rfl rfl T.f26_4 ?_; clear HE; intro a HE
           refine o_ld HE rfl HS rfl T.s4 (.here .here) rfl ?_; clear HE; intro a HE
           refine hK _ _ ?_; clear hK K
           refine cond HE rfl (fun h60 => ?_) (fun h60 => ?_)
           ·have h60r := h60; try simp only [zz1, zz2, zz3, zz4, zz5, zz6, zz7, zz8, zz9, zza, zzb] at h60
            refine wp_region_lit ?_
            refine o_move HE rfl rfl ?_; clear HE; intro a HE
            refine o_cat HE rfl rfl rfl (by (simp; omega)) ?_; clear HE; intro a HE
            refine o_assign HE rfl rfl ?_; clear HE; intro a HE
            refine hK57 _ _ ?_; clear hK57
            refine wp_seq_k (fun K hK => ?_); refine wp_region_lit ?_
            refine o_move HE rfl rfl ?_; clear HE; intro a HE
            refine o_assign HE rfl rfl ?_; clear HE; intro a HE
            refine hK _ _ ?_; clear hK K
            refine wp_ret ?_
            show Q .ret _ _
            refine ret hQ HE rfl (HE.res rfl .nil) ⟨_, _, HS.stop (List.nil_sublist _), rfl, ?_⟩
            have e : printR p = ((((((((((((([] ++ (saidS 0 (⟨p.r0.way, p.r0.size⟩ : Rul))) ++ [10]) ++ (saidS 1 (⟨p.r1.way, p.r1.size⟩ : Rul))) ++ [10]) ++ (saidS 2 (⟨p.r2.way, p.r2.size⟩ : Rul))) ++ [10]) ++ (saidS 3 (⟨p.r3.way, p.r3.size⟩ : Rul))) ++ [10]) ++ (saidS 4 (⟨p.r4.way, p.r4.size⟩ : Rul))) ++ [10]) ++ [116, 105, 109, 101, 32, 107, 101, 101, 112, 10]) ++ [110, 111, 116, 101, 32, 107, 101, 101, 112, 10]) ++ [108, 111, 111, 115, 101, 10]) ++ [102, 111, 114, 99, 101, 10] := by
             unfold printR keysP
             rw [if_pos hp]
             simp [sLine, ruleAt, sTK, sTR, sNK, sND, sLo, sFo, h48, h52, h56, h60]
            show _ = _
            rw [e]
            rfl
           ·have h60r := h60; try simp only [zz1, zz2, zz3, zz4, zz5, zz6, zz7, zz8, zz9, zza, zzb] at h60
            refine wp_skip ?_
            refine hK57 _ _ ?_; clear hK57
            refine wp_seq_k (fun K hK => ?_); refine wp_region_lit ?_
            refine o_move HE rfl rfl ?_; clear HE; intro a HE
            refine o_assign HE rfl rfl ?_; clear HE; intro a HE
            refine hK _ _ ?_; clear hK K
            refine wp_ret ?_
            show Q .ret _ _
            refine ret hQ HE rfl (HE.res rfl .nil) ⟨_, _, HS.stop (List.nil_sublist _), rfl, ?_⟩
            have e : printR p = (((((((((((([] ++ (saidS 0 (⟨p.r0.way, p.r0.size⟩ : Rul))) ++ [10]) ++ (saidS 1 (⟨p.r1.way, p.r1.size⟩ : Rul))) ++ [10]) ++ (saidS 2 (⟨p.r2.way, p.r2.size⟩ : Rul))) ++ [10]) ++ (saidS 3 (⟨p.r3.way, p.r3.size⟩ : Rul))) ++ [10]) ++ (saidS 4 (⟨p.r4.way, p.r4.size⟩ : Rul))) ++ [10]) ++ [116, 105, 109, 101, 32, 107, 101, 101, 112, 10]) ++ [110, 111, 116, 101, 32, 107, 101, 101, 112, 10]) ++ [108, 111, 111, 115, 101, 10] := by
             unfold printR keysP
             rw [if_pos hp]
             simp [sLine, ruleAt, sTK, sTR, sNK, sND, sLo, sFo, h48, h52, h56, h60]
            show _ = _
            rw [e]
            rfl
          ·have h56r := h56; try simp only [zz1, zz2, zz3, zz4, zz5, zz6, zz7, zz8, zz9, zza, zzb] at h56
           refine wp_skip ?_
           refine hK53 _ _ ?_; clear hK53
           refine wp_seq_k (fun K64 hK63 => ?_)
           refine wp_seq_k (fun K hK => ?_); refine wp_region_lit ?_
           refine o_fld HE rfl rfl T.f26_4 ?_; clear HE; intro a HE
           refine o_ld HE rfl HS rfl T.s4 (.here .here) rfl ?_; clear HE; intro a HE
           refine hK _ _ ?_; clear hK K
           refine cond HE rfl (fun h66 => ?_) (fun h66 => ?_)
           ·have h66r := h66; try simp only [zz1, zz2, zz3, zz4, zz5, zz6, zz7, zz8, zz9, zza, zzb] at h66
            refine wp_region_lit ?_
            refine o_move HE rfl rfl ?_; clear HE; intro a HE
            refine o_cat HE rfl rfl rfl (by (simp; omega)) ?_; clear HE; intro a HE
            refine o_assign HE rfl rfl ?_; clear HE; intro a HE
            refine hK63 _ _ ?_; clear hK63
            refine wp_seq_k (fun K hK => ?_); refine wp_region_lit ?_
            refine o_move HE rfl rfl ?_; clear HE; intro a HE
            refine o_assign HE rfl rfl ?_; clear HE; intro a HE
            refine hK _ _ ?_; clear hK K
            refine wp_ret ?_
            show Q .ret _ _
            refine ret hQ HE rfl (HE.res rfl .nil) ⟨_, _, HS.stop (List.nil_sublist _), rfl, ?_⟩
            have e : printR p = (((((((((((([] ++ (saidS 0 (⟨p.r0.way, p.r0.size⟩ : Rul))) ++ [10]) ++ (saidS 1 (⟨p.r1.way, p.r1.size⟩ : Rul))) ++ [10]) ++ (saidS 2 (⟨p.r2.way, p.r2.size⟩ : Rul))) ++ [10]) ++ (saidS 3 (⟨p.r3.way, p.r3.size⟩ : Rul))) ++ [10]) ++ (saidS 4 (⟨p.r4.way, p.r4.size⟩ : Rul))) ++ [10]) ++ [116, 105, 109, 101, 32, 107, 101, 101, 112, 10]) ++ [110, 111, 116, 101, 32, 107, 101, 101, 112, 10]) ++ [102, 111, 114, 99, 101, 10] := by
             unfold printR keysP
             rw [if_pos hp]
             simp [sLine, ruleAt, sTK, sTR, sNK, sND, sLo, sFo, h48, h52, h56, h66]
            show _ = _
            rw [e]
            rfl
           ·have h66r := h66; try simp only [zz1, zz2, zz3, zz4, zz5, zz6, zz7, zz8, zz9, zza, zzb] at h66
            refine wp_skip ?_
            refine hK63 _ _ ?_; clear hK63
            refine wp_seq_k (fun K hK => ?_); refine wp_region_lit ?_
            refine o_move HE rfl rfl ?_; clear HE; intro a HE
            refine o_assign HE rfl rfl ?_; clear HE; intro a HE
            refine hK _ _ ?_; clear hK K
            refine wp_ret ?_
            show Q .ret _ _
            refine ret hQ HE rfl (HE.res rfl .nil) ⟨_, _, HS.stop (List.nil_sublist _), rfl, ?_⟩
            have e : printR p = ((((((((((([] ++ (saidS 0 (⟨p.r0.way, p.r0.size⟩ : Rul))) ++ [10]) ++ (saidS 1 (⟨p.r1.way, p.r1.size⟩ : Rul))) ++ [10]) ++ (saidS 2 (⟨p.r2.way, p.r2.size⟩ : Rul))) ++ [10]) ++ (saidS 3 (⟨p.r3.way, p.r3.size⟩ : Rul))) ++ [10]) ++ (saidS 4 (⟨p.r4.way, p.r4.size⟩ : Rul))) ++ [10]) ++ [116, 105, 109, 101, 32, 107, 101, 101, 112, 10]) ++ [110, 111, 116, 101, 32, 107, 101, 101, 112, 10] := by
             unfold printR keysP
             rw [if_pos hp]
             simp [sLine, ruleAt, sTK, sTR, sNK, sND, sLo, sFo, h48, h52, h56, h66]
            show _ = _
            rw [e]
            rfl
         ·have h52r := h52; try simp only [zz1, zz2, zz3, zz4, zz5, zz6, zz7, zz8, zz9, zza, zzb] at h52
          refine wp_region_lit ?_
          refine o_move HE rfl rfl ?_; clear HE; intro a HE
          refine o_cat HE rfl rfl rfl (by (simp; omega)) ?_; clear HE; intro a HE
          refine o_assign HE rfl rfl ?_; clear HE; intro a HE
          refine hK49 _ _ ?_; clear hK49
          refine wp_seq_k (fun K70 hK69 => ?_)
          refine wp_seq_k (fun K hK => ?_); refine wp_region_lit ?_
          refine o_fld HE rfl rfl T.f26_3 ?_; clear HE; intro a HE
          refine o_ld HE rfl HS rfl T.s4 (.here .here) rfl ?_; clear HE; intro a HE
          refine hK _ _ ?_; clear hK K
          refine cond HE rfl (fun h72 => ?_) (fun h72 => ?_)
          ·have h72r := h72; try simp only [zz1, zz2, zz3, zz4, zz5, zz6, zz7, zz8, zz9, zza, zzb] at h72
           refine wp_region_lit ?_
           refine o_move HE rfl rfl ?_; clear HE; intro a HE
           refine o_cat HE rfl rfl rfl (by (simp; omega)) ?_; clear HE; intro a HE
           refine o_assign HE rfl rfl ?_; clear HE; intro a HE
           refine hK69 _ _ ?_; clear hK69
           refine wp_seq_k (fun K74 hK73 => ?_)
           refine wp_seq_k (fun K hK => ?_); refine wp_region_lit ?_
           refine o_fld HE rfl rfl T.f26_4 ?_; clear HE; intro a HE
           refine o_ld HE rfl HS rfl T.s4 (.here .here) rfl ?_; clear HE; intro a HE
           refine hK _ _ ?_; clear hK K
           refine cond HE rfl (fun h76 => ?_) (fun h76 => ?_)
           ·have h76r := h76; try simp only [zz1, zz2, zz3, zz4, zz5, zz6, zz7, zz8, zz9, zza, zzb] at h76
            refine wp_region_lit ?_
            refine o_move HE rfl rfl ?_; clear HE; intro a HE
            refine o_cat HE rfl rfl rfl (by (simp; omega)) ?_; clear HE; intro a HE
            refine o_assign HE rfl rfl ?_; clear HE; intro a HE
            refine hK73 _ _ ?_; clear hK73
            refine wp_seq_k (fun K hK => ?_); refine wp_region_lit ?_
            refine o_move HE rfl rfl ?_; clear HE; intro a HE
            refine o_assign HE rfl rfl ?_; clear HE; intro a HE
            refine hK _ _ ?_; clear hK K
            refine wp_ret ?_
            show Q .ret _ _
            refine ret hQ HE rfl (HE.res rfl .nil) ⟨_, _, HS.stop (List.nil_sublist _), rfl, ?_⟩
            have e : printR p = ((((((((((((([] ++ (saidS 0 (⟨p.r0.way, p.r0.size⟩ : Rul))) ++ [10]) ++ (saidS 1 (⟨p.r1.way, p.r1.size⟩ : Rul))) ++ [10]) ++ (saidS 2 (⟨p.r2.way, p.r2.size⟩ : Rul))) ++ [10]) ++ (saidS 3 (⟨p.r3.way, p.r3.size⟩ : Rul))) ++ [10]) ++ (saidS 4 (⟨p.r4.way, p.r4.size⟩ : Rul))) ++ [10]) ++ [116, 105, 109, 101, 32, 107, 101, 101, 112, 10]) ++ [110, 111, 116, 101, 32, 100, 114, 111, 112, 10]) ++ [108, 111, 111, 115, 101, 10]) ++ [102, 111, 114, 99, 101, 10] := by
             unfold printR keysP
             rw [if_pos hp]
             simp [sLine, ruleAt, sTK, sTR, sNK, sND, sLo, sFo, h48, h52, h72, h76]
            show _ = _
            rw [e]
            rfl
           ·have h76r := h76; try simp only [zz1, zz2, zz3, zz4, zz5, zz6, zz7, zz8, zz9, zza, zzb] at h76
            refine wp_skip ?_
            refine hK73 _ _ ?_; clear hK73
            refine wp_seq_k (fun K hK => ?_); refine wp_region_lit ?_
            refine o_move HE rfl rfl ?_; clear HE; intro a HE
            refine o_assign HE rfl rfl ?_; clear HE; intro a HE
            refine hK _ _ ?_; clear hK K
            refine wp_ret ?_
            show Q .ret _ _
            refine ret hQ HE rfl (HE.res rfl .nil) ⟨_, _, HS.stop (List.nil_sublist _), rfl, ?_⟩
            have e : printR p = (((((((((((([] ++ (saidS 0 (⟨p.r0.way, p.r0.size⟩ : Rul))) ++ [10]) ++ (saidS 1 (⟨p.r1.way, p.r1.size⟩ : Rul))) ++ [10]) ++ (saidS 2 (⟨p.r2.way, p.r2.size⟩ : Rul))) ++ [10]) ++ (saidS 3 (⟨p.r3.way, p.r3.size⟩ : Rul))) ++ [10]) ++ (saidS 4 (⟨p.r4.way, p.r4.size⟩ : Rul))) ++ [10]) ++ [116, 105, 109, 101, 32, 107, 101, 101, 112, 10]) ++ [110, 111, 116, 101, 32, 100, 114, 111, 112, 10]) ++ [108, 111, 111, 115, 101, 10] := by
             unfold printR keysP
             rw [if_pos hp]
             simp [sLine, ruleAt, sTK, sTR, sNK, sND, sLo, sFo, h48, h52, h72, h76]
            show _ = _
            rw [e]
            rfl
          ·have h72r := h72; try simp only [zz1, zz2, zz3, zz4, zz5, zz6, zz7, zz8, zz9, zza, zzb] at h72
           refine wp_skip ?_
           refine hK69 _ _ ?_; clear hK69
           refine wp_seq_k (fun K80 hK79 => ?_)
           refine wp_seq_k (fun K hK => ?_); refine wp_region_lit ?_
           refine o_fld HE rfl rfl T.f26_4 ?_; clear HE; intro a HE
           refine o_ld HE rfl HS rfl T.s4 (.here .here) rfl ?_; clear HE; intro a HE
           refine hK _ _ ?_; clear hK K
           refine cond HE rfl (fun h82 => ?_) (fun h82 => ?_)
           ·have h82r := h82; try simp only [zz1, zz2, zz3, zz4, zz5, zz6, zz7, zz8, zz9, zza, zzb] at h82
            refine wp_region_lit ?_
            refine o_move HE rfl rfl ?_; clear HE; intro a HE
            refine o_cat HE rfl rfl rfl (by (simp; omega)) ?_; clear HE; intro a HE
            refine o_assign HE rfl rfl ?_; clear HE; intro a HE
            refine hK79 _ _ ?_; clear hK79
            refine wp_seq_k (fun K hK => ?_); refine wp_region_lit ?_
            refine o_move HE rfl rfl ?_; clear HE; intro a HE
            refine o_assign HE rfl rfl ?_; clear HE; intro a HE
            refine hK _ _ ?_; clear hK K
            refine wp_ret ?_
            show Q .ret _ _
            refine ret hQ HE rfl (HE.res rfl .nil) ⟨_, _, HS.stop (List.nil_sublist _), rfl, ?_⟩
            have e : printR p = (((((((((((([] ++ (saidS 0 (⟨p.r0.way, p.r0.size⟩ : Rul))) ++ [10]) ++ (saidS 1 (⟨p.r1.way, p.r1.size⟩ : Rul))) ++ [10]) ++ (saidS 2 (⟨p.r2.way, p.r2.size⟩ : Rul))) ++ [10]) ++ (saidS 3 (⟨p.r3.way, p.r3.size⟩ : Rul))) ++ [10]) ++ (saidS 4 (⟨p.r4.way, p.r4.size⟩ : Rul))) ++ [10]) ++ [116, 105, 109, 101, 32, 107, 101, 101, 112, 10]) ++ [110, 111, 116, 101, 32, 100, 114, 111, 112, 10]) ++ [102, 111, 114, 99, 101, 10] := by
             unfold printR keysP
             rw [if_pos hp]
             simp [sLine, ruleAt, sTK, sTR, sNK, sND, sLo, sFo, h48, h52, h72, h82]
            show _ = _
            rw [e]
            rfl
           ·have h82r := h82; try simp only [zz1, zz2, zz3, zz4, zz5, zz6, zz7, zz8, zz9, zza, zzb] at h82
            refine wp_skip ?_
            refine hK79 _ _ ?_; clear hK79
            refine wp_seq_k (fun K hK => ?_); refine wp_region_lit ?_
            refine o_move HE rfl rfl ?_; clear HE; intro a HE
            refine o_assign HE rfl rfl ?_; clear HE; intro a HE
            refine hK _ _ ?_; clear hK K
            refine wp_ret ?_
            show Q .ret _ _
            refine ret hQ HE rfl (HE.res rfl .nil) ⟨_, _, HS.stop (List.nil_sublist _), rfl, ?_⟩
            have e : printR p = ((((((((((([] ++ (saidS 0 (⟨p.r0.way, p.r0.size⟩ : Rul))) ++ [10]) ++ (saidS 1 (⟨p.r1.way, p.r1.size⟩ : Rul))) ++ [10]) ++ (saidS 2 (⟨p.r2.way, p.r2.size⟩ : Rul))) ++ [10]) ++ (saidS 3 (⟨p.r3.way, p.r3.size⟩ : Rul))) ++ [10]) ++ (saidS 4 (⟨p.r4.way, p.r4.size⟩ : Rul))) ++ [10]) ++ [116, 105, 109, 101, 32, 107, 101, 101, 112, 10]) ++ [110, 111, 116, 101, 32, 100, 114, 111, 112, 10] := by
             unfold printR keysP
             rw [if_pos hp]
             simp [sLine, ruleAt, sTK, sTR, sNK, sND, sLo, sFo, h48, h52, h72, h82]
            show _ = _
            rw [e]
            rfl
        ·have h48r := h48; try simp only [zz1, zz2, zz3, zz4, zz5, zz6, zz7, zz8, zz9, zza, zzb] at h48
         refine wp_region_lit ?_
         refine o_move HE rfl rfl ?_; clear HE; intro a HE
         refine o_cat HE rfl rfl rfl (by (simp; omega)) ?_; clear HE; intro a HE
         refine o_assign HE rfl rfl ?_; clear HE; intro a HE
         refine hK45 _ _ ?_; clear hK45
         refine wp_seq_k (fun K86 hK85 => ?_)
         refine wp_seq_k (fun K hK => ?_); refine wp_region_lit ?_
         refine o_fld HE rfl rfl T.f26_2 ?_; clear HE; intro a HE
         refine o_ld HE rfl HS rfl T.s3 (.here .here) rfl ?_; clear HE; intro a HE
         refine o_eqI HE rfl rfl rfl ?_; clear HE; intro a HE
         refine hK _ _ ?_; clear hK K
         refine cond HE rfl (fun h88 => ?_) (fun h88 => ?_)
         ·have h88r := h88; try simp only [zz1, zz2, zz3, zz4, zz5, zz6, zz7, zz8, zz9, zza, zzb] at h88
          refine wp_region_lit ?_
          refine o_move HE rfl rfl ?_; clear HE; intro a HE
          refine o_cat HE rfl rfl rfl (by (simp; omega)) ?_; clear HE; intro a HE
          refine o_assign HE rfl rfl ?_; clear HE; intro a HE
          refine hK85 _ _ ?_; clear hK85
          refine wp_seq_k (fun K90 hK89 => ?_)
          refine wp_seq_k (fun K hK => ?_); refine wp_region_lit ?_
          refine o_fld HE rfl rfl T.f26_3 ?_; clear HE; intro a HE
          refine o_ld HE rfl HS rfl T.s4 (.here .here) rfl ?_; clear HE; intro a HE
          refine hK _ _ ?_; clear hK K
          refine cond HE rfl (fun h92 => ?_) (fun h92 => ?_)
          ·have h92r := h92; try simp only [zz1, zz2, zz3, zz4, zz5, zz6, zz7, zz8, zz9, zza, zzb] at h92
           refine wp_region_lit ?_
           refine o_move HE rfl rfl ?_; clear HE; intro a HE
           refine o_cat HE rfl rfl rfl (by (simp; omega)) ?_; clear HE; intro a HE
           refine o_assign HE rfl rfl ?_; clear HE; intro a HE
           refine hK89 _ _ ?_; clear hK89
           refine wp_seq_k (fun K94 hK93 => ?_)
           refine wp_seq_k (fun K hK => ?_); refine wp_region_lit ?_
           refine o_fld HE rfl rfl T.f26_4 ?_; clear HE; intro a HE
           refine o_ld HE rfl HS rfl T.s4 (.here .here) rfl ?_; clear HE; intro a HE
           refine hK _ _ ?_; clear hK K
           refine cond HE rfl (fun h96 => ?_) (fun h96 => ?_)
           ·have h96r := h96; try simp only [zz1, zz2, zz3, zz4, zz5, zz6, zz7, zz8, zz9, zza, zzb] at h96
            refine wp_region_lit ?_
            refine o_move HE rfl rfl ?_; clear HE; intro a HE
            refine o_cat HE rfl rfl rfl (by (simp; omega)) ?_; clear HE; intro a HE
            refine o_assign HE rfl rfl ?_; clear HE; intro a HE
            refine hK93 _ _ ?_; clear hK93
            refine wp_seq_k (fun K hK => ?_); refine wp_region_lit ?_
            refine o_move HE rfl rfl ?_; clear HE; intro a HE
            refine o_assign HE rfl rfl ?_; clear HE; intro a HE
            refine hK _ _ ?_; clear hK K
            refine wp_ret ?_
            show Q .ret _ _
            refine ret hQ HE rfl (HE.res rfl .nil) ⟨_, _, HS.stop (List.nil_sublist _), rfl, ?_⟩
            have e : printR p = ((((((((((((([] ++ (saidS 0 (⟨p.r0.way, p.r0.size⟩ : Rul))) ++ [10]) ++ (saidS 1 (⟨p.r1.way, p.r1.size⟩ : Rul))) ++ [10]) ++ (saidS 2 (⟨p.r2.way, p.r2.size⟩ : Rul))) ++ [10]) ++ (saidS 3 (⟨p.r3.way, p.r3.size⟩ : Rul))) ++ [10]) ++ (saidS 4 (⟨p.r4.way, p.r4.size⟩ : Rul))) ++ [10]) ++ [116, 105, 109, 101, 32, 114, 97, 110, 107, 10]) ++ [110, 111, 116, 101, 32, 107, 101, 101, 112, 10]) ++ [108, 111, 111, 115, 101, 10]) ++ [102, 111, 114, 99, 101, 10] := by
             unfold printR keysP
             rw [if_pos hp]
             simp [sLine, ruleAt, sTK, sTR, sNK, sND, sLo, sFo, h48, h88, h92, h96]
            show _ = _
            rw [e]
            rfl
           ·have h96r := h96; try simp only [zz1, zz2, zz3, zz4, zz5, zz6, zz7, zz8, zz9, zza, zzb] at h96
            refine wp_skip ?_
            refine hK93 _ _ ?_; clear hK93
            refine wp_seq_k (fun K hK => ?_); refine wp_region_lit ?_
            refine o_move HE rfl rfl ?_; clear HE; intro a HE
            refine o_assign HE rfl rfl ?_; clear HE; intro a HE
            refine hK _ _ ?_; clear hK K
            refine wp_ret ?_
            show Q .ret _ _
            refine ret hQ HE rfl (HE.res rfl .nil) ⟨_, _, HS.stop (List.nil_sublist _), rfl, ?_⟩
            have e : printR p = (((((((((((([] ++ (saidS 0 (⟨p.r0.way, p.r0.size⟩ : Rul))) ++ [10]) ++ (saidS 1 (⟨p.r1.way, p.r1.size⟩ : Rul))) ++ [10]) ++ (saidS 2 (⟨p.r2.way, p.r2.size⟩ : Rul))) ++ [10]) ++ (saidS 3 (⟨p.r3.way, p.r3.size⟩ : Rul))) ++ [10]) ++ (saidS 4 (⟨p.r4.way, p.r4.size⟩ : Rul))) ++ [10]) ++ [116, 105, 109, 101, 32, 114, 97, 110, 107, 10]) ++ [110, 111, 116, 101, 32, 107, 101, 101, 112, 10]) ++ [108, 111, 111, 115, 101, 10] := by
             unfold printR keysP
             rw [if_pos hp]
             simp [sLine, ruleAt, sTK, sTR, sNK, sND, sLo, sFo, h48, h88, h92, h96]
            show _ = _
            rw [e]
            rfl
          ·have h92r := h92; try simp only [zz1, zz2, zz3, zz4, zz5, zz6, zz7, zz8, zz9, zza, zzb] at h92
           refine wp_skip ?_
           refine hK89 _ _ ?_; clear hK89
           refine wp_seq_k (fun K100 hK99 => ?_)
           refine wp_seq_k (fun K hK => ?_); refine wp_region_lit ?_
           refine o_fld HE rfl rfl T.f26_4 ?_; clear HE; intro a HE
           refine o_ld HE rfl HS rfl T.s4 (.here .here) rfl ?_; clear HE; intro a HE
           refine hK _ _ ?_; clear hK K
           refine cond HE rfl (fun h102 => ?_) (fun h102 => ?_)
           ·have h102r := h102; try simp only [zz1, zz2, zz3, zz4, zz5, zz6, zz7, zz8, zz9, zza, zzb] at h102
            refine wp_region_lit ?_
            refine o_move HE rfl rfl ?_; clear HE; intro a HE
            refine o_cat HE rfl rfl rfl (by (simp; omega)) ?_; clear HE; intro a HE
            refine o_assign HE rfl rfl ?_; clear HE; intro a HE
            refine hK99 _ _ ?_; clear hK99
            refine wp_seq_k (fun K hK => ?_); refine wp_region_lit ?_
            refine o_move HE rfl rfl ?_; clear HE; intro a HE
            refine o_assign HE rfl rfl ?_; clear HE; intro a HE
            refine hK _ _ ?_; clear hK K
            refine wp_ret ?_
            show Q .ret _ _
            refine ret hQ HE rfl (HE.res rfl .nil) ⟨_, _, HS.stop (List.nil_sublist _), rfl, ?_⟩
            have e : printR p = (((((((((((([] ++ (saidS 0 (⟨p.r0.way, p.r0.size⟩ : Rul))) ++ [10]) ++ (saidS 1 (⟨p.r1.way, p.r1.size⟩ : Rul))) ++ [10]) ++ (saidS 2 (⟨p.r2.way, p.r2.size⟩ : Rul))) ++ [10]) ++ (saidS 3 (⟨p.r3.way, p.r3.size⟩ : Rul))) ++ [10]) ++ (saidS 4 (⟨p.r4.way, p.r4.size⟩ : Rul))) ++ [10]) ++ [116, 105, 109, 101, 32, 114, 97, 110, 107, 10]) ++ [110, 111, 116, 101, 32, 107, 101, 101, 112, 10]) ++ [102, 111, 114, 99, 101, 10] := by
             unfold printR keysP
             rw [if_pos hp]
             simp [sLine, ruleAt, sTK, sTR, sNK, sND, sLo, sFo, h48, h88, h92, h102]
            show _ = _
            rw [e]
            rfl
           ·have h102r := h102; try simp only [zz1, zz2, zz3, zz4, zz5, zz6, zz7, zz8, zz9, zza, zzb] at h102
            refine wp_skip ?_
            refine hK99 _ _ ?_; clear hK99
            refine wp_seq_k (fun K hK => ?_); refine wp_region_lit ?_
            refine o_move HE rfl rfl ?_; clear HE; intro a HE
            refine o_assign HE rfl rfl ?_; clear HE; intro a HE
            refine hK _ _ ?_; clear hK K
            refine wp_ret ?_
            show Q .ret _ _
            refine ret hQ HE rfl (HE.res rfl .nil) ⟨_, _, HS.stop (List.nil_sublist _), rfl, ?_⟩
            have e : printR p = ((((((((((([] ++ (saidS 0 (⟨p.r0.way, p.r0.size⟩ : Rul))) ++ [10]) ++ (saidS 1 (⟨p.r1.way, p.r1.size⟩ : Rul))) ++ [10]) ++ (saidS 2 (⟨p.r2.way, p.r2.size⟩ : Rul))) ++ [10]) ++ (saidS 3 (⟨p.r3.way, p.r3.size⟩ : Rul))) ++ [10]) ++ (saidS 4 (⟨p.r4.way, p.r4.size⟩ : Rul))) ++ [10]) ++ [116, 105, 109, 101, 32, 114, 97, 110, 107, 10]) ++ [110, 111, 116, 101, 32, 107, 101, 101, 112, 10] := by
             unfold printR keysP
             rw [if_pos hp]
             simp [sLine, ruleAt, sTK, sTR, sNK, sND, sLo, sFo, h48, h88, h92, h102]
            show _ = _
            rw [e]
            rfl
         ·have h88r := h88; try simp only [zz1, zz2, zz3, zz4, zz5, zz6, zz7, zz8, zz9, zza, zzb] at h88
          refine wp_region_lit ?_
          refine o_move HE rfl rfl ?_; clear HE; intro a HE
          refine o_cat HE rfl rfl rfl (by (simp; omega)) ?_; clear HE; intro a HE
          refine o_assign HE rfl rfl ?_; clear HE; intro a HE
          refine hK85 _ _ ?_; clear hK85
          refine wp_seq_k (fun K106 hK105 => ?_)
          refine wp_seq_k (fun K hK => ?_); refine wp_region_lit ?_
          refine o_fld HE rfl rfl T.f26_3 ?_; clear HE; intro a HE
          refine o_ld HE rfl HS rfl T.s4 (.here .here) rfl ?_; clear HE; intro a HE
          refine hK _ _ ?_; clear hK K
          refine cond HE rfl (fun h108 => ?_) (fun h108 => ?_)
          ·have h108r := h108; try simp only [zz1, zz2, zz3, zz4, zz5, zz6, zz7, zz8, zz9, zza, zzb] at h108
           refine wp_region_lit ?_
           refine o_move HE rfl rfl ?_; clear HE; intro a HE
           refine o_cat HE rfl rfl rfl (by (simp; omega)) ?_; clear HE; intro a HE
           refine o_assign HE rfl rfl ?_; clear HE; intro a HE
           refine hK105 _ _ ?_; clear hK105
           refine wp_seq_k (fun K110 hK109 => ?_)
           refine wp_seq_k (fun K hK => ?_); refine wp_region_lit ?_
           refine o_fld HE rfl rfl T.f26_4 ?_; clear HE; intro a HE
           refine o_ld HE rfl HS rfl T.s4 (.here .here) rfl ?_; clear HE; intro a HE
           refine hK _ _ ?_; clear hK K
           refine cond HE rfl (fun h112 => ?_) (fun h112 => ?_)
           ·have h112r := h112; try simp only [zz1, zz2, zz3, zz4, zz5, zz6, zz7, zz8, zz9, zza, zzb] at h112
            refine wp_region_lit ?_
            refine o_move HE rfl rfl ?_; clear HE; intro a HE
            refine o_cat HE rfl rfl rfl (by (simp; omega)) ?_; clear HE; intro a HE
            refine o_assign HE rfl rfl ?_; clear HE; intro a HE
            refine hK109 _ _ ?_; clear hK109
            refine wp_seq_k (fun K hK => ?_); refine wp_region_lit ?_
            refine o_move HE rfl rfl ?_; clear HE; intro a HE
            refine o_assign HE rfl rfl ?_; clear HE; intro a HE
            refine hK _ _ ?_; clear hK K
            refine wp_ret ?_
            show Q .ret _ _
            refine ret hQ HE rfl (HE.res rfl .nil) ⟨_, _, HS.stop (List.nil_sublist _), rfl, ?_⟩
            have e : printR p = ((((((((((((([] ++ (saidS 0 (⟨p.r0.way, p.r0.size⟩ : Rul))) ++ [10]) ++ (saidS 1 (⟨p.r1.way, p.r1.size⟩ : Rul))) ++ [10]) ++ (saidS 2 (⟨p.r2.way, p.r2.size⟩ : Rul))) ++ [10]) ++ (saidS 3 (⟨p.r3.way, p.r3.size⟩ : Rul))) ++ [10]) ++ (saidS 4 (⟨p.r4.way, p.r4.size⟩ : Rul))) ++ [10]) ++ [116, 105, 109, 101, 32, 114, 97, 110, 107, 10]) ++ [110, 111, 116, 101, 32, 100, 114, 111, 112, 10]) ++ [108, 111, 111, 115, 101, 10]) ++ [102, 111, 114, 99, 101, 10] := by
             unfold printR keysP
             rw [if_pos hp]
             simp [sLine, ruleAt, sTK, sTR, sNK, sND, sLo, sFo, h48, h88, h108, h112]
            show _ = _
            rw [e]
            rfl
           ·have h112r := h112; try simp only [zz1, zz2, zz3, zz4, zz5, zz6, zz7, zz8, zz9, zza, zzb] at h112
            refine wp_skip ?_
            refine hK109 _ _ ?_; clear hK109
            refine wp_seq_k (fun K hK => ?_); refine wp_region_lit ?_
            refine o_move HE rfl rfl ?_; clear HE; intro a HE
            refine o_assign HE rfl rfl ?_; clear HE; intro a HE
            refine hK _ _ ?_; clear hK K
            refine wp_ret ?_
            show Q .ret _ _
            refine ret hQ HE rfl (HE.res rfl .nil) ⟨_, _, HS.stop (List.nil_sublist _), rfl, ?_⟩
            have e : printR p = (((((((((((([] ++ (saidS 0 (⟨p.r0.way, p.r0.size⟩ : Rul))) ++ [10]) ++ (saidS 1 (⟨p.r1.way, p.r1.size⟩ : Rul))) ++ [10]) ++ (saidS 2 (⟨p.r2.way, p.r2.size⟩ : Rul))) ++ [10]) ++ (saidS 3 (⟨p.r3.way, p.r3.size⟩ : Rul))) ++ [10]) ++ (saidS 4 (⟨p.r4.way, p.r4.size⟩ : Rul))) ++ [10]) ++ [116, 105, 109, 101, 32, 114, 97, 110, 107, 10]) ++ [110, 111, 116, 101, 32, 100, 114, 111, 112, 10]) ++ [108, 111, 111, 115, 101, 10] := by
             unfold printR keysP
             rw [if_pos hp]
             simp [sLine, ruleAt, sTK, sTR, sNK, sND, sLo, sFo, h48, h88, h108, h112]
            show _ = _
            rw [e]
            rfl
          ·have h108r := h108; try simp only [zz1, zz2, zz3, zz4, zz5, zz6, zz7, zz8, zz9, zza, zzb] at h108
           refine wp_skip ?_
           refine hK105 _ _ ?_; clear hK105
           refine wp_seq_k (fun K116 hK115 => ?_)
           refine wp_seq_k (fun K hK => ?_); refine wp_region_lit ?_
           refine o_fld HE rfl rfl T.f26_4 ?_; clear HE; intro a HE
           refine o_ld HE rfl HS rfl T.s4 (.here .here) rfl ?_; clear HE; intro a HE
           refine hK _ _ ?_; clear hK K
           refine cond HE rfl (fun h118 => ?_) (fun h118 => ?_)
           ·have h118r := h118; try simp only [zz1, zz2, zz3, zz4, zz5, zz6, zz7, zz8, zz9, zza, zzb] at h118
            refine wp_region_lit ?_
            refine o_move HE rfl rfl ?_; clear HE; intro a HE
            refine o_cat HE rfl rfl rfl (by (simp; omega)) ?_; clear HE; intro a HE
            refine o_assign HE rfl rfl ?_; clear HE; intro a HE
            refine hK115 _ _ ?_; clear hK115
            refine wp_seq_k (fun K hK => ?_); refine wp_region_lit ?_
            refine o_move HE rfl rfl ?_; clear HE; intro a HE
            refine o_assign HE rfl rfl ?_; clear HE; intro a HE
            refine hK _ _ ?_; clear hK K
            refine wp_ret ?_
            show Q .ret _ _
            refine ret hQ HE rfl (HE.res rfl .nil) ⟨_, _, HS.stop (List.nil_sublist _), rfl, ?_⟩
            have e : printR p = (((((((((((([] ++ (saidS 0 (⟨p.r0.way, p.r0.size⟩ : Rul))) ++ [10]) ++ (saidS 1 (⟨p.r1.way, p.r1.size⟩ : Rul))) ++ [10]) ++ (saidS 2 (⟨p.r2.way, p.r2.size⟩ : Rul))) ++ [10]) ++ (saidS 3 (⟨p.r3.way, p.r3.size⟩ : Rul))) ++ [10]) ++ (saidS 4 (⟨p.r4.way, p.r4.size⟩ : Rul))) ++ [10]) ++ [116, 105, 109, 101, 32, 114, 97, 110, 107, 10]) ++ [110, 111, 116, 101, 32, 100, 114, 111, 112, 10]) ++ [102, 111, 114, 99, 101, 10] := by
             unfold printR keysP
             rw [if_pos hp]
             simp [sLine, ruleAt, sTK, sTR, sNK, sND, sLo, sFo, h48, h88, h108, h118]
            show _ = _
            rw [e]
            rfl
           ·have h118r := h118; try simp only [zz1, zz2, zz3, zz4, zz5, zz6, zz7, zz8, zz9, zza, zzb] at h118
            refine wp_skip ?_
            refine hK115 _ _ ?_; clear hK115
            refine wp_seq_k (fun K hK => ?_); refine wp_region_lit ?_
            refine o_move HE rfl rfl ?_; clear HE; intro a HE
            refine o_assign HE rfl rfl ?_; clear HE; intro a HE
            refine hK _ _ ?_; clear hK K
            refine wp_ret ?_
            show Q .ret _ _
            refine ret hQ HE rfl (HE.res rfl .nil) ⟨_, _, HS.stop (List.nil_sublist _), rfl, ?_⟩
            have e : printR p = ((((((((((([] ++ (saidS 0 (⟨p.r0.way, p.r0.size⟩ : Rul))) ++ [10]) ++ (saidS 1 (⟨p.r1.way, p.r1.size⟩ : Rul))) ++ [10]) ++ (saidS 2 (⟨p.r2.way, p.r2.size⟩ : Rul))) ++ [10]) ++ (saidS 3 (⟨p.r3.way, p.r3.size⟩ : Rul))) ++ [10]) ++ (saidS 4 (⟨p.r4.way, p.r4.size⟩ : Rul))) ++ [10]) ++ [116, 105, 109, 101, 32, 114, 97, 110, 107, 10]) ++ [110, 111, 116, 101, 32, 100, 114, 111, 112, 10] := by
             unfold printR keysP
             rw [if_pos hp]
             simp [sLine, ruleAt, sTK, sTR, sNK, sND, sLo, sFo, h48, h88, h108, h118]
            show _ = _
            rw [e]
            rfl
      ·exact absurd h38 (by decide)
     ·exact absurd h32 (by decide)
    ·exact absurd h26 (by decide)
   ·exact absurd h20 (by decide)
  ·exact absurd h14 (by decide)

end Go.Proofs.YtiinipcmghhacaaDoor.T10
