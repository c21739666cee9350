/- Chapter 25 walked: the laws. -/
import Derived.Test.YtiinipcmghhacaaDoorA10
import Derived.Test.YtiinipcmghhacaaDoorX23
set_option linter.unusedVariables false
set_option linter.unusedSimpArgs false
namespace Go.Proofs.YtiinipcmghhacaaDoor.T10
open Go Go.Proofs.YtiinipcmghhacaaDoor.X
theorem T.Q26 : flatG Tryd.prog 26 = some [.int .i64, .int .i64, .int .i64, .int .i64, .int .i64, .int .i64, .int .i64, .int .i64, .int .i64, .int .i64, .int .i64, .int .i64, .bool, .bool] := by kernel_rfl
theorem T.a24 : aggSz Tryd.prog 24 = some 10 := by kernel_rfl
theorem T.g14 : goFn Tryd.prog 14 = true := by kernel_rfl
theorem T.g17 : goFn Tryd.prog 17 = true := by kernel_rfl
theorem T.g18 : goFn Tryd.prog 18 = true := by kernel_rfl
theorem T.g19 : goFn Tryd.prog 19 = true := by kernel_rfl
theorem T.q33 : flatT Tryd.prog 33 = some [.int .i64, .int .i64] := by kernel_rfl

set_option maxRecDepth 100000 in
theorem wake1 : parseP [111, 114, 100, 101, 114, 32, 114, 97, 110, 107, 10] = ({ P0 with r4 := ⟨3, 0⟩ }, 0) := by decide +kernel
set_option maxRecDepth 100000 in
theorem wake2 : parseP [118, 97, 108, 117, 101, 32, 114, 97, 110, 107, 10] = (P0, 1) := by decide +kernel
/-! `incognito/policy.Right` -/
set_option maxRecDepth 100000 in
set_option maxHeartbeats 4000000 in
theorem c_right (p : Pol) (w0 : World) (G : Heap) (hG : Sub G w0) :
  Calls Tryd.prog 19 #[.agg #[.int .i64 p.r0.way, .int .i64 p.r0.size, .int .i64 p.r1.way, .int .i64 p.r1.size, .int .i64 p.r2.way, .int .i64 p.r2.size, .int .i64 p.r3.way, .int .i64 p.r3.size, .int .i64 p.r4.way, .int .i64 p.r4.size, .int .i64 p.time, .int .i64 p.note, .bool p.loose, .bool p.force]] w0 (Ret w0 G (fun v _ => v = .bool (rightB p))) := by
 refine enter Tryd.func19 rfl Tryd.ntmps19 rfl ?_
 intro Q hQ a HE
 have HS := St.start0 hG
 refine wp_seq_k (fun K hK => ?_); refine wp_region_lit ?_
 refine o_boxL [(0, _), (1, _), (2, _), (3, _), (4, _), (5, _), (6, _), (7, _), (8, _), (9, _), (10, _), (11, _), (12, _), (13, _)] HE rfl HS rfl ⟨rfl, rfl, rfl, rfl, rfl, rfl, rfl, rfl, rfl, rfl, rfl, rfl, rfl, rfl, trivial⟩ ?_; clear HE HS; intro B1 w a HS HE
 refine o_assign HE rfl rfl ?_; clear HE; intro a HE
 refine hK _ _ ?_; clear hK K
 refine wp_seq_k (fun K3 hK2 => ?_)
 refine wp_seq_k (fun K hK => ?_); refine wp_region_lit ?_
 refine o_fld HE rfl rfl T.f26_0 ?_; clear HE; intro a HE
 refine o_ldA HE rfl HS rfl T.a24 (.here .here) rfl ?_; clear HE; intro a HE
 refine o_move HE rfl rfl ?_; clear HE; intro a HE
 refine hK _ _ ?_; clear hK K
 refine wp_block ?_
 refine wp_loop_rounds 6 ?_
 rw [rounds_succ]
 refine wp_seq_k (fun K hK => ?_); refine wp_region_lit ?_
 refine o_lss HE rfl rfl rfl ?_; clear HE; intro a HE
 refine hK _ _ ?_; clear hK K
 refine wp_seq_k (fun K7 hK6 => ?_)
 refine cond HE rfl (fun h8 => ?_) (fun h8 => ?_)
 ·have h8r := h8; try simp only [zz1, zz2, zz3, zz4, zz5, zz6, zz7, zz8, zz9, zza, zzb] at h8
  refine wp_skip ?_
  refine hK6 _ _ ?_; clear hK6
  refine wp_seq_k (fun K10 hK9 => ?_)
  refine wp_block ?_
  refine wp_seq_k (fun K hK => ?_); refine wp_region_lit ?_
  refine o_move HE rfl rfl ?_; clear HE; intro a HE
  refine o_ixV HE rfl rfl rfl T.r24 Tryd.underlying24 (by decide) rfl (.inr ⟨T.a23, rfl⟩) ?_; clear HE; intro a HE
  refine o_allocL [(0, _), (1, _)] HE rfl HS T.z23 ⟨rfl, rfl, trivial⟩ ?_; clear HE HS; intro B4 w a HS HE
  refine o_assign HE rfl rfl ?_; clear HE; intro a HE
  refine o_stA HE HS rfl rfl rfl T.a23 (.here .here) rfl ?_; clear HS; intro w HS
  refine hK _ _ ?_; clear hK K
  refine wp_seq_k (fun K hK => ?_); refine wp_region_lit ?_
  refine o_move HE rfl rfl ?_; clear HE; intro a HE
  refine o_ldA HE rfl HS rfl T.a23 (.here .here) rfl ?_; clear HE; intro a HE
  refine o_callP HE rfl HS rfl rfl T.g41 (c_ruled 0 (⟨p.r0.way, p.r0.size⟩ : Rul) _ _ HS.sub) ?_
  clear HE HS; rintro _ w a HS rfl HE
  refine o_not HE rfl rfl ?_; clear HE; intro a HE
  refine hK _ _ ?_; clear hK K
  refine cond HE rfl (fun h13 => ?_) (fun h13 => ?_)
  ·have h13r := h13; try simp only [zz1, zz2, zz3, zz4, zz5, zz6, zz7, zz8, zz9, zza, zzb] at h13
   refine wp_seq_k (fun K hK => ?_); refine wp_region_lit ?_
   refine o_assign HE rfl rfl ?_; clear HE; intro a HE
   refine hK _ _ ?_; clear hK K
   refine wp_ret ?_
   show Q .ret _ _
   refine ret hQ HE rfl (HE.res rfl .nil) ⟨_, _, HS.stop (List.nil_sublist _), rfl, ?_⟩
   show _ = _
   simp only [packed, Value.bool.injEq]
   simp only [rightB]
   first | (simp_all; done) | grind
  ·have h13r := h13; try simp only [zz1, zz2, zz3, zz4, zz5, zz6, zz7, zz8, zz9, zza, zzb] at h13
   refine wp_skip ?_
   refine hK9 _ _ ?_; clear hK9
   refine wp_region_lit ?_
   refine o_add HE rfl rfl rfl (by omega) ?_; clear HE; intro a HE
   refine o_move HE rfl rfl ?_; clear HE; intro a HE
   show Code.rounds _ _ _ _ _ _
   replace HE := HE.cut (L' := [(1, .pointer (some ⟨B1, 0, none⟩)), (2, .bool false), (6, .agg #[.int .i64 p.r0.way, .int .i64 p.r0.size, .int .i64 p.r1.way, .int .i64 p.r1.size, .int .i64 p.r2.way, .int .i64 p.r2.size, .int .i64 p.r3.way, .int .i64 p.r3.size, .int .i64 p.r4.way, .int .i64 p.r4.size]), (7, .int .i64 1)]) ⟨rfl, rfl, rfl, rfl, trivial⟩
   rw [rounds_succ]
   refine wp_seq_k (fun K hK => ?_); refine wp_region_lit ?_
   refine o_lss HE rfl rfl rfl ?_; clear HE; intro a HE
   refine hK _ _ ?_; clear hK K
   refine wp_seq_k (fun K17 hK16 => ?_)
   refine cond HE rfl (fun h18 => ?_) (fun h18 => ?_)
   ·have h18r := h18; try simp only [zz1, zz2, zz3, zz4, zz5, zz6, zz7, zz8, zz9, zza, zzb] at h18
    refine wp_skip ?_
    refine hK16 _ _ ?_; clear hK16
    refine wp_seq_k (fun K20 hK19 => ?_)
    refine wp_block ?_
    refine wp_seq_k (fun K hK => ?_); refine wp_region_lit ?_
    refine o_move HE rfl rfl ?_; clear HE; intro a HE
    refine o_ixV HE rfl rfl rfl T.r24 Tryd.underlying24 (by decide) rfl (.inr ⟨T.a23, rfl⟩) ?_; clear HE; intro a HE
    refine o_allocL [(0, _), (1, _)] HE rfl HS T.z23 ⟨rfl, rfl, trivial⟩ ?_; clear HE HS; intro B4_21 w a HS HE
    refine o_assign HE rfl rfl ?_; clear HE; intro a HE
    refine o_stA HE HS rfl rfl rfl T.a23 (.here .here) rfl ?_; clear HS; intro w HS
    refine hK _ _ ?_; clear hK K
    refine wp_seq_k (fun K hK => ?_); refine wp_region_lit ?_
    refine o_move HE rfl rfl ?_; clear HE; intro a HE
    refine o_ldA HE rfl HS rfl T.a23 (.here .here) rfl ?_; clear HE; intro a HE
    refine o_callP HE rfl HS rfl rfl T.g41 (c_ruled 1 (⟨p.r1.way, p.r1.size⟩ : Rul) _ _ HS.sub) ?_
    clear HE HS; rintro _ w a HS rfl HE
    refine o_not HE rfl rfl ?_; clear HE; intro a HE
    refine hK _ _ ?_; clear hK K
    refine cond HE rfl (fun h24 => ?_) (fun h24 => ?_)
    ·have h24r := h24; try simp only [zz1, zz2, zz3, zz4, zz5, zz6, zz7, zz8, zz9, zza, zzb] at h24
     refine wp_seq_k (fun K hK => ?_); refine wp_region_lit ?_
     refine o_assign HE rfl rfl ?_; clear HE; intro a HE
     refine hK _ _ ?_; clear hK K
     refine wp_ret ?_
     show Q .ret _ _
     refine ret hQ HE rfl (HE.res rfl .nil) ⟨_, _, HS.stop (List.nil_sublist _), rfl, ?_⟩
     show _ = _
     simp only [packed, Value.bool.injEq]
     simp only [rightB]
     first | (simp_all; done) | grind
    ·have h24r := h24; try simp only [zz1, zz2, zz3, zz4, zz5, zz6, zz7, zz8, zz9, zza, zzb] at h24
     refine wp_skip ?_
     refine hK19 _ _ ?_; clear hK19
     refine wp_region_lit ?_
     refine o_add HE rfl rfl rfl (by omega) ?_; clear HE; intro a HE
     refine o_move HE rfl rfl ?_; clear HE; intro a HE
     show Code.rounds _ _ _ _ _ _
     replace HE := HE.cut (L' := [(1, .pointer (some ⟨B1, 0, none⟩)), (2, .bool false), (6, .agg #[.int .i64 p.r0.way, .int .i64 p.r0.size, .int .i64 p.r1.way, .int .i64 p.r1.size, .int .i64 p.r2.way, .int .i64 p.r2.size, .int .i64 p.r3.way, .int .i64 p.r3.size, .int .i64 p.r4.way, .int .i64 p.r4.size]), (7, .int .i64 2)]) ⟨rfl, rfl, rfl, rfl, trivial⟩
     rw [rounds_succ]
     refine wp_seq_k (fun K hK => ?_); refine wp_region_lit ?_
     refine o_lss HE rfl rfl rfl ?_; clear HE; intro a HE
     refine hK _ _ ?_; clear hK K
     refine wp_seq_k (fun K28 hK27 => ?_)
     refine cond HE rfl (fun h29 => ?_) (fun h29 => ?_)
     ·have h29r := h29; try simp only [zz1, zz2, zz3, zz4, zz5, zz6, zz7, zz8, zz9, zza, zzb] at h29
      refine wp_skip ?_
      refine hK27 _ _ ?_; clear hK27
      refine wp_seq_k (fun K31 hK30 => ?_)
      refine wp_block ?_
      refine wp_seq_k (fun K hK => ?_); refine wp_region_lit ?_
      refine o_move HE rfl rfl ?_; clear HE; intro a HE
      refine o_ixV HE rfl rfl rfl T.r24 Tryd.underlying24 (by decide) rfl (.inr ⟨T.a23, rfl⟩) ?_; clear HE; intro a HE
      refine o_allocL [(0, _), (1, _)] HE rfl HS T.z23 ⟨rfl, rfl, trivial⟩ ?_; clear HE HS; intro B4_32 w a HS HE
      refine o_assign HE rfl rfl ?_; clear HE; intro a HE
      refine o_stA HE HS rfl rfl rfl T.a23 (.here .here) rfl ?_; clear HS; intro w HS
      refine hK _ _ ?_; clear hK K
      refine wp_seq_k (fun K hK => ?_); refine wp_region_lit ?_
      refine o_move HE rfl rfl ?_; clear HE; intro a HE
      refine o_ldA HE rfl HS rfl T.a23 (.here .here) rfl ?_; clear HE; intro a HE
      refine o_callP HE rfl HS rfl rfl T.g41 (c_ruled 2 (⟨p.r2.way, p.r2.size⟩ : Rul) _ _ HS.sub) ?_
      clear HE HS; rintro _ w a HS rfl HE
      refine o_not HE rfl rfl ?_; clear HE; intro a HE
      refine hK _ _ ?_; clear hK K
      refine cond HE rfl (fun h35 => ?_) (fun h35 => ?_)
      ·have h35r := h35; try simp only [zz1, zz2, zz3, zz4, zz5, zz6, zz7, zz8, zz9, zza, zzb] at h35
       refine wp_seq_k (fun K hK => ?_); refine wp_region_lit ?_
       refine o_assign HE rfl rfl ?_; clear HE; intro a HE
       refine hK _ _ ?_; clear hK K
       refine wp_ret ?_
       show Q .ret _ _
       refine ret hQ HE rfl (HE.res rfl .nil) ⟨_, _, HS.stop (List.nil_sublist _), rfl, ?_⟩
       show _ = _
       simp only [packed, Value.bool.injEq]
       simp only [rightB]
       first | (simp_all; done) | grind
      ·have h35r := h35; try simp only [zz1, zz2, zz3, zz4, zz5, zz6, zz7, zz8, zz9, zza, zzb] at h35
       refine wp_skip ?_
       refine hK30 _ _ ?_; clear hK30
       refine wp_region_lit ?_
       refine o_add HE rfl rfl rfl (by omega) ?_; clear HE; intro a HE
       refine o_move HE rfl rfl ?_; clear HE; intro a HE
       show Code.rounds _ _ _ _ _ _
       replace HE := HE.cut (L' := [(1, .pointer (some ⟨B1, 0, none⟩)), (2, .bool false), (6, .agg #[.int .i64 p.r0.way, .int .i64 p.r0.size, .int .i64 p.r1.way, .int .i64 p.r1.size, .int .i64 p.r2.way, .int .i64 p.r2.size, .int .i64 p.r3.way, .int .i64 p.r3.size, .int .i64 p.r4.way, .int .i64 p.r4.size]), (7, .int .i64 3)]) ⟨rfl, rfl, rfl, rfl, trivial⟩
       rw [rounds_succ]
       refine wp_seq_k (fun K hK => ?_); refine wp_region_lit ?_
       refine o_lss HE rfl rfl rfl ?_; clear HE; intro a HE
       refine hK _ _ ?_; clear hK K
       refine wp_seq_k (fun K39 hK38 => ?_)
       refine cond HE rfl (fun h40 => ?_) (fun h40 => ?_)
       ·have h40r := h40; try simp only [zz1, zz2, zz3, zz4, zz5, zz6, zz7, zz8, zz9, zza, zzb] at h40
        refine wp_skip ?_
        refine hK38 _ _ ?_; clear hK38
        refine wp_seq_k (fun K42 hK41 => ?_)
        refine wp_block ?_
        refine wp_seq_k (fun K hK => ?_); refine wp_region_lit ?_
        refine o_move HE rfl rfl ?_; clear HE; intro a HE
        refine o_ixV HE rfl rfl rfl T.r24 Tryd.underlying24 (by decide) rfl (.inr ⟨T.a23, rfl⟩) ?_; clear HE; intro a HE
        refine o_allocL [(0, _), (1, _)] HE rfl HS T.z23 ⟨rfl, rfl, trivial⟩ ?_; clear HE HS; intro B4_43 w a HS HE
        refine o_assign HE rfl rfl ?_; clear HE; intro a HE
        refine o_stA HE HS rfl rfl rfl T.a23 (.here .here) rfl ?_; clear HS; intro w HS
        refine hK _ _ ?_; clear hK K
        refine wp_seq_k (fun K hK => ?_); refine wp_region_lit ?_
        refine o_move HE rfl rfl ?_; clear HE; intro a HE
        refine o_ldA HE rfl HS rfl T.a23 (.here .here) rfl ?_; clear HE; intro a HE
        refine o_callP HE rfl HS rfl rfl T.g41 (c_ruled 3 (⟨p.r3.way, p.r3.size⟩ : Rul) _ _ HS.sub) ?_
        clear HE HS; rintro _ w a HS rfl HE
        refine o_not HE rfl rfl ?_; clear HE; intro a HE
        refine hK _ _ ?_; clear hK K
        refine cond HE rfl (fun h46 => ?_) (fun h46 => ?_)
        ·have h46r := h46; try simp only [zz1, zz2, zz3, zz4, zz5, zz6, zz7, zz8, zz9, zza, zzb] at h46
         refine wp_seq_k (fun K hK => ?_); refine wp_region_lit ?_
         refine o_assign HE rfl rfl ?_; clear HE; intro a HE
         refine hK _ _ ?_; clear hK K
         refine wp_ret ?_
         show Q .ret _ _
         refine ret hQ HE rfl (HE.res rfl .nil) ⟨_, _, HS.stop (List.nil_sublist _), rfl, ?_⟩
         show _ = _
         simp only [packed, Value.bool.injEq]
         simp only [rightB]
         first | (simp_all; done) | grind
        ·have h46r := h46; try simp only [zz1, zz2, zz3, zz4, zz5, zz6, zz7, zz8, zz9, zza, zzb] at h46
         refine wp_skip ?_
         refine hK41 _ _ ?_; clear hK41
         refine wp_region_lit ?_
         refine o_add HE rfl rfl rfl (by omega) ?_; clear HE; intro a HE
         refine o_move HE rfl rfl ?_; clear HE; intro a HE
         show Code.rounds _ _ _ _ _ _
         replace HE := HE.cut (L' := [(1, .pointer (some ⟨B1, 0, none⟩)), (2, .bool false), (6, .agg #[.int .i64 p.r0.way, .int .i64 p.r0.size, .int .i64 p.r1.way, .int .i64 p.r1.size, .int .i64 p.r2.way, .int .i64 p.r2.size, .int .i64 p.r3.way, .int .i64 p.r3.size, .int .i64 p.r4.way, .int .i64 p.r4.size]), (7, .int .i64 4)]) ⟨rfl, rfl, rfl, rfl, trivial⟩
         rw [rounds_succ]
         refine wp_seq_k (fun K hK => ?_); refine wp_region_lit ?_
         refine o_lss HE rfl rfl rfl ?_; clear HE; intro a HE
         refine hK _ _ ?_; clear hK K
         refine wp_seq_k (fun K50 hK49 => ?_)
         refine cond HE rfl (fun h51 => ?_) (fun h51 => ?_)
         ·have h51r := h51; try simp only [zz1, zz2, zz3, zz4, zz5, zz6, zz7, zz8, zz9, zza, zzb] at h51
          refine wp_skip ?_
          refine hK49 _ _ ?_; clear hK49
          refine wp_seq_k (fun K53 hK52 => ?_)
          refine wp_block ?_
          refine wp_seq_k (fun K hK => ?_); refine wp_region_lit ?_
          refine o_move HE rfl rfl ?_; clear HE; intro a HE
          refine o_ixV HE rfl rfl rfl T.r24 Tryd.underlying24 (by decide) rfl (.inr ⟨T.a23, rfl⟩) ?_; clear HE; intro a HE
          refine o_allocL [(0, _), (1, _)] HE rfl HS T.z23 ⟨rfl, rfl, trivial⟩ ?_; clear HE HS; intro B4_54 w a HS HE
          refine o_assign HE rfl rfl ?_; clear HE; intro a HE
          refine o_stA HE HS rfl rfl rfl T.a23 (.here .here) rfl ?_; clear HS; intro w HS
          refine hK _ _ ?_; clear hK K
          refine wp_seq_k (fun K hK => ?_); refine wp_region_lit ?_
          refine o_move HE rfl rfl ?_; clear HE; intro a HE
          refine o_ldA HE rfl HS rfl T.a23 (.here .here) rfl ?_; clear HE; intro a HE
          refine o_callP HE rfl HS rfl rfl T.g41 (c_ruled 4 (⟨p.r4.way, p.r4.size⟩ : Rul) _ _ HS.sub) ?_
          clear HE HS; rintro _ w a HS rfl HE
          refine o_not HE rfl rfl ?_; clear HE; intro a HE
          refine hK _ _ ?_; clear hK K
          refine cond HE rfl (fun h57 => ?_) (fun h57 => ?_)
          ·have h57r := h57; try simp only [zz1, zz2, zz3, zz4, zz5, zz6, zz7, zz8, zz9, zza, zzb] at h57
           refine wp_seq_k (fun K hK => ?_); refine wp_region_lit ?_
           refine o_assign HE rfl rfl ?_; clear HE; intro a HE
           refine hK _ _ ?_; clear hK K
           refine wp_ret ?_
           show Q .ret _ _
           refine ret hQ HE rfl (HE.res rfl .nil) ⟨_, _, HS.stop (List.nil_sublist _), rfl, ?_⟩
           show _ = _
           simp only [packed, Value.bool.injEq]
           simp only [rightB]
           first | (simp_all; done) | grind
          ·have h57r := h57; try simp only [zz1, zz2, zz3, zz4, zz5, zz6, zz7, zz8, zz9, zza, zzb] at h57
           refine wp_skip ?_
           refine hK52 _ _ ?_; clear hK52
           refine wp_region_lit ?_
           refine o_add HE rfl rfl rfl (by omega) ?_; clear HE; intro a HE
           refine o_move HE rfl rfl ?_; clear HE; intro a HE
           show Code.rounds _ _ _ _ _ _
           replace HE := HE.cut (L' := [(1, .pointer (some ⟨B1, 0, none⟩)), (2, .bool false), (6, .agg #[.int .i64 p.r0.way, .int .i64 p.r0.size, .int .i64 p.r1.way, .int .i64 p.r1.size, .int .i64 p.r2.way, .int .i64 p.r2.size, .int .i64 p.r3.way, .int .i64 p.r3.size, .int .i64 p.r4.way, .int .i64 p.r4.size]), (7, .int .i64 5)]) ⟨rfl, rfl, rfl, rfl, trivial⟩
           rw [rounds_succ]
           refine wp_seq_k (fun K hK => ?_); refine wp_region_lit ?_
           refine o_lss HE rfl rfl rfl ?_; clear HE; intro a HE
           refine hK _ _ ?_; clear hK K
           refine wp_seq_k (fun K61 hK60 => ?_)
           refine cond HE rfl (fun h62 => ?_) (fun h62 => ?_)
           ·exact absurd h62 (by decide)
           ·have h62r := h62; try simp only [zz1, zz2, zz3, zz4, zz5, zz6, zz7, zz8, zz9, zza, zzb] at h62
            refine wp_exit ?_
            refine hK2 _ _ ?_; clear hK2
            refine wp_seq_k (fun K hK => ?_); refine wp_region_lit ?_
            refine o_fld HE rfl rfl T.f26_1 ?_; clear HE; intro a HE
            refine o_ld HE rfl HS rfl T.s3 (.there (.there (.there (.there (.there (.here .here)))))) rfl ?_; clear HE; intro a HE
            refine o_eqI HE rfl rfl rfl ?_; clear HE; intro a HE
            refine o_move HE rfl rfl ?_; clear HE; intro a HE
            refine cutL 4 (fun a' w' => w = w' ∧ Env a' 34 [] [(23, .bool ((decide (p.time = 0)) || (decide (p.time = 3)))), (1, .pointer (some ⟨B1, 0, none⟩)), (2, .bool false), (6, .agg #[.int .i64 p.r0.way, .int .i64 p.r0.size, .int .i64 p.r1.way, .int .i64 p.r1.size, .int .i64 p.r2.way, .int .i64 p.r2.size, .int .i64 p.r3.way, .int .i64 p.r3.size, .int .i64 p.r4.way, .int .i64 p.r4.size]), (7, .int .i64 5), (8, .bool (decide (5 < 5)))]) ?_ ?_
            ·refine (Bool.eq_false_or_eq_true (decide (p.time = 0))).elim (fun hb63 => ?_) (fun hb63 => ?_)
             ·skip
              have hk64 := hb63; try simp only [zz1, zz2, zz3, zz4, zz5, zz7, zz8, zz9, zza, zzb] at hk64
              refine g_off HE rfl rfl rfl hb63 ?_; clear HE; intro a HE
              refine g_off HE rfl rfl rfl hb63 ?_; clear HE; intro a HE
              refine g_off HE rfl rfl rfl hb63 ?_; clear HE; intro a HE
              refine o_pick_t HE rfl rfl hb63 rfl ?_; clear HE; intro a HE
              exact ⟨rfl, HE.cut ⟨by rw [hb63]; rfl, rfl, rfl, rfl, rfl, rfl, trivial⟩⟩
             ·skip
              have hk65 := hb63; try simp only [zz1, zz2, zz3, zz4, zz5, zz7, zz8, zz9, zza, zzb] at hk65
              refine op_on HE rfl rfl hb63 ?_
              refine o_fld HE rfl rfl T.f26_1 ?_; clear HE; intro a HE
              refine op_on HE rfl rfl hb63 ?_
              refine o_ld HE rfl HS rfl T.s3 (.there (.there (.there (.there (.there (.here .here)))))) rfl ?_; clear HE; intro a HE
              refine op_on HE rfl rfl hb63 ?_
              refine o_eqI HE rfl rfl rfl ?_; clear HE; intro a HE
              refine o_pick_f HE rfl rfl hb63 rfl ?_; clear HE; intro a HE
              exact ⟨rfl, HE.cut ⟨by rw [hb63]; rfl, rfl, rfl, rfl, rfl, rfl, trivial⟩⟩
            clear HE; rintro a _ ⟨rfl, HE⟩
            refine o_move HE rfl rfl ?_; clear HE; intro a HE
            refine cutL 9 (fun a' w' => w = w' ∧ Env a' 34 [] [(33, .bool (((decide (p.time = 0)) || (decide (p.time = 3))) && ((decide (p.note = 0)) || (decide (p.note = 4))))), (1, .pointer (some ⟨B1, 0, none⟩)), (2, .bool false), (6, .agg #[.int .i64 p.r0.way, .int .i64 p.r0.size, .int .i64 p.r1.way, .int .i64 p.r1.size, .int .i64 p.r2.way, .int .i64 p.r2.size, .int .i64 p.r3.way, .int .i64 p.r3.size, .int .i64 p.r4.way, .int .i64 p.r4.size]), (7, .int .i64 5), (8, .bool (decide (5 < 5)))]) ?_ ?_
            ·refine (Bool.eq_false_or_eq_true ((decide (p.time = 0)) || (decide (p.time = 3)))).elim (fun hb66 => ?_) (fun hb66 => ?_)
             ·skip
              have hk67 := hb66; try simp only [zz1, zz2, zz3, zz4, zz5, zz7, zz8, zz9, zza, zzb] at hk67
              refine op_on HE rfl rfl hb66 ?_
              refine o_fld HE rfl rfl T.f26_2 ?_; clear HE; intro a HE
              refine op_on HE rfl rfl hb66 ?_
              refine o_ld HE rfl HS rfl T.s3 (.there (.there (.there (.there (.there (.here .here)))))) rfl ?_; clear HE; intro a HE
              refine op_on HE rfl rfl hb66 ?_
              refine o_eqI HE rfl rfl rfl ?_; clear HE; intro a HE
              refine op_on HE rfl rfl hb66 ?_
              refine o_move HE rfl rfl ?_; clear HE; intro a HE
              refine cutL 4 (fun a' w' => w = w' ∧ Env a' 34 [] [(32, .bool ((decide (p.note = 0)) || (decide (p.note = 4)))), (1, .pointer (some ⟨B1, 0, none⟩)), (2, .bool false), (6, .agg #[.int .i64 p.r0.way, .int .i64 p.r0.size, .int .i64 p.r1.way, .int .i64 p.r1.size, .int .i64 p.r2.way, .int .i64 p.r2.size, .int .i64 p.r3.way, .int .i64 p.r3.size, .int .i64 p.r4.way, .int .i64 p.r4.size]), (7, .int .i64 5), (8, .bool (decide (5 < 5))), (24, .bool ((decide (p.time = 0)) || (decide (p.time = 3))))]) ?_ ?_
              ·refine (Bool.eq_false_or_eq_true (decide (p.note = 0))).elim (fun hb68 => ?_) (fun hb68 => ?_)
               ·skip
                have hk69 := hb68; try simp only [zz1, zz2, zz3, zz4, zz5, zz7, zz8, zz9, zza, zzb] at hk69
                refine g_off HE rfl rfl rfl hb68 ?_; clear HE; intro a HE
                refine g_off HE rfl rfl rfl hb68 ?_; clear HE; intro a HE
                refine g_off HE rfl rfl rfl hb68 ?_; clear HE; intro a HE
                refine op_on HE rfl rfl hb66 ?_
                refine o_pick_t HE rfl rfl hb68 rfl ?_; clear HE; intro a HE
                exact ⟨rfl, HE.cut ⟨by rw [hb68]; rfl, rfl, rfl, rfl, rfl, rfl, rfl, trivial⟩⟩
               ·skip
                have hk70 := hb68; try simp only [zz1, zz2, zz3, zz4, zz5, zz7, zz8, zz9, zza, zzb] at hk70
                refine op_on HE rfl rfl hb68 ?_
                refine o_fld HE rfl rfl T.f26_2 ?_; clear HE; intro a HE
                refine op_on HE rfl rfl hb68 ?_
                refine o_ld HE rfl HS rfl T.s3 (.there (.there (.there (.there (.there (.here .here)))))) rfl ?_; clear HE; intro a HE
                refine op_on HE rfl rfl hb68 ?_
                refine o_eqI HE rfl rfl rfl ?_; clear HE; intro a HE
                refine op_on HE rfl rfl hb66 ?_
                refine o_pick_f HE rfl rfl hb68 rfl ?_; clear HE; intro a HE
                exact ⟨rfl, HE.cut ⟨by rw [hb68]; rfl, rfl, rfl, rfl, rfl, rfl, rfl, trivial⟩⟩
              clear HE; rintro a _ ⟨rfl, HE⟩
              refine o_pick_t HE rfl rfl hb66 rfl ?_; clear HE; intro a HE
              exact ⟨rfl, HE.cut ⟨by rw [hb66]; rfl, rfl, rfl, rfl, rfl, rfl, trivial⟩⟩
             ·skip
              have hk71 := hb66; try simp only [zz1, zz2, zz3, zz4, zz5, zz7, zz8, zz9, zza, zzb] at hk71
              refine g_off HE rfl rfl rfl hb66 ?_; clear HE; intro a HE
              refine g_off HE rfl rfl rfl hb66 ?_; clear HE; intro a HE
              refine g_off HE rfl rfl rfl hb66 ?_; clear HE; intro a HE
              refine g_off HE rfl rfl rfl hb66 ?_; clear HE; intro a HE
              refine g_offu HE rfl rfl rfl ?_; clear HE; intro a HE
              refine g_offu HE rfl rfl rfl ?_; clear HE; intro a HE
              refine g_offu HE rfl rfl rfl ?_; clear HE; intro a HE
              refine g_off HE rfl rfl rfl hb66 ?_; clear HE; intro a HE
              refine o_pick_f HE rfl rfl hb66 rfl ?_; clear HE; intro a HE
              exact ⟨rfl, HE.cut ⟨by rw [hb66]; rfl, rfl, rfl, rfl, rfl, rfl, trivial⟩⟩
            clear HE; rintro a _ ⟨rfl, HE⟩
            refine o_assign HE rfl rfl ?_; clear HE; intro a HE
            refine hK _ _ ?_; clear hK K
            refine wp_ret ?_
            show Q .ret _ _
            refine ret hQ HE rfl (HE.res rfl .nil) ⟨_, _, HS.stop (List.nil_sublist _), rfl, ?_⟩
            show _ = _
            simp only [packed, Value.bool.injEq]
            simp only [rightB]
            first | (simp_all; done) | grind
         ·exact absurd h51 (by decide)
       ·exact absurd h40 (by decide)
     ·exact absurd h29 (by decide)
   ·exact absurd h18 (by decide)
 ·exact absurd h8 (by decide)

/-! `incognito/incognitoref25.Right` -/
set_option maxRecDepth 100000 in
set_option maxHeartbeats 4000000 in
theorem c_Right (p : Pol) (w0 : World) (G : Heap) (hG : Sub G w0) :
  Calls Tryd.prog 15 #[.agg #[.int .i64 p.r0.way, .int .i64 p.r0.size, .int .i64 p.r1.way, .int .i64 p.r1.size, .int .i64 p.r2.way, .int .i64 p.r2.size, .int .i64 p.r3.way, .int .i64 p.r3.size, .int .i64 p.r4.way, .int .i64 p.r4.size, .int .i64 p.time, .int .i64 p.note, .bool p.loose, .bool p.force]] w0 (Ret w0 G (fun v _ => v = .bool (rightB p))) := by
 refine enter Tryd.func15 rfl Tryd.ntmps15 rfl ?_
 intro Q hQ a HE
 have HS := St.start0 hG
 refine wp_seq_k (fun K hK => ?_); refine wp_region_lit ?_
 refine o_boxL [(0, _), (1, _), (2, _), (3, _), (4, _), (5, _), (6, _), (7, _), (8, _), (9, _), (10, _), (11, _), (12, _), (13, _)] HE rfl HS rfl ⟨rfl, rfl, rfl, rfl, rfl, rfl, rfl, rfl, rfl, rfl, rfl, rfl, rfl, rfl, trivial⟩ ?_; clear HE HS; intro B1 w a HS HE
 refine o_assign HE rfl rfl ?_; clear HE; intro a HE
 refine hK _ _ ?_; clear hK K
 refine wp_seq_k (fun K3 hK2 => ?_)
 refine wp_seq_k (fun K hK => ?_); refine wp_region_lit ?_
 refine o_assign HE rfl rfl ?_; clear HE; intro a HE
 refine hK _ _ ?_; clear hK K
 refine wp_block ?_
 refine wp_loop_rounds 6 ?_
 rw [rounds_succ]
 refine wp_seq_k (fun K6 hK5 => ?_)
 refine wp_seq_k (fun K hK => ?_); refine wp_region_lit ?_
 refine o_move HE rfl rfl ?_; clear HE; intro a HE
 refine o_lss HE rfl rfl rfl ?_; clear HE; intro a HE
 refine hK _ _ ?_; clear hK K
 refine cond HE rfl (fun h8 => ?_) (fun h8 => ?_)
 ·have h8r := h8; try simp only [zz1, zz2, zz3, zz4, zz5, zz6, zz7, zz8, zz9, zza, zzb] at h8
  refine wp_skip ?_
  refine hK5 _ _ ?_; clear hK5
  refine wp_seq_k (fun K10 hK9 => ?_)
  refine wp_block ?_
  refine wp_seq_k (fun K hK => ?_); refine wp_region_lit ?_
  refine o_move HE rfl rfl ?_; clear HE; intro a HE
  refine o_move HE rfl rfl ?_; clear HE; intro a HE
  refine o_fld HE rfl rfl T.f26_0 ?_; clear HE; intro a HE
  refine o_ixA HE rfl rfl rfl T.r24 (by decide) ?_; clear HE; intro a HE
  refine o_ldA HE rfl HS rfl T.a23 (.here .here) rfl ?_; clear HE; intro a HE
  refine o_callP HE rfl HS rfl rfl T.g34 (c_Ruled 0 (⟨p.r0.way, p.r0.size⟩ : Rul) _ _ HS.sub) ?_
  clear HE HS; rintro _ w a HS rfl HE
  refine o_not HE rfl rfl ?_; clear HE; intro a HE
  refine hK _ _ ?_; clear hK K
  refine cond HE rfl (fun h12 => ?_) (fun h12 => ?_)
  ·have h12r := h12; try simp only [zz1, zz2, zz3, zz4, zz5, zz6, zz7, zz8, zz9, zza, zzb] at h12
   refine wp_seq_k (fun K hK => ?_); refine wp_region_lit ?_
   refine o_assign HE rfl rfl ?_; clear HE; intro a HE
   refine hK _ _ ?_; clear hK K
   refine wp_ret ?_
   show Q .ret _ _
   refine ret hQ HE rfl (HE.res rfl .nil) ⟨_, _, HS.stop (List.nil_sublist _), rfl, ?_⟩
   show _ = _
   simp only [packed, Value.bool.injEq]
   simp only [rightB]
   first | (simp_all; done) | grind
  ·have h12r := h12; try simp only [zz1, zz2, zz3, zz4, zz5, zz6, zz7, zz8, zz9, zza, zzb] at h12
   refine wp_skip ?_
   refine hK9 _ _ ?_; clear hK9
   refine wp_region_lit ?_
   refine o_move HE rfl rfl ?_; clear HE; intro a HE
   refine o_add HE rfl rfl rfl (by omega) ?_; clear HE; intro a HE
   refine o_assign HE rfl rfl ?_; clear HE; intro a HE
   show Code.rounds _ _ _ _ _ _
   replace HE := HE.cut (L' := [(1, .pointer (some ⟨B1, 0, none⟩)), (2, .bool false), (3, .int .i64 1)]) ⟨rfl, rfl, rfl, trivial⟩
   rw [rounds_succ]
   refine wp_seq_k (fun K15 hK14 => ?_)
   refine wp_seq_k (fun K hK => ?_); refine wp_region_lit ?_
   refine o_move HE rfl rfl ?_; clear HE; intro a HE
   refine o_lss HE rfl rfl rfl ?_; clear HE; intro a HE
   refine hK _ _ ?_; clear hK K
   refine cond HE rfl (fun h17 => ?_) (fun h17 => ?_)
   ·have h17r := h17; try simp only [zz1, zz2, zz3, zz4, zz5, zz6, zz7, zz8, zz9, zza, zzb] at h17
    refine wp_skip ?_
    refine hK14 _ _ ?_; clear hK14
    refine wp_seq_k (fun K19 hK18 => ?_)
    refine wp_block ?_
    refine wp_seq_k (fun K hK => ?_); refine wp_region_lit ?_
    refine o_move HE rfl rfl ?_; clear HE; intro a HE
    refine o_move HE rfl rfl ?_; clear HE; intro a HE
    refine o_fld HE rfl rfl T.f26_0 ?_; clear HE; intro a HE
    refine o_ixA HE rfl rfl rfl T.r24 (by decide) ?_; clear HE; intro a HE
    refine o_ldA HE rfl HS rfl T.a23 (.here .here) rfl ?_; clear HE; intro a HE
    refine o_callP HE rfl HS rfl rfl T.g34 (c_Ruled 1 (⟨p.r1.way, p.r1.size⟩ : Rul) _ _ HS.sub) ?_
    clear HE HS; rintro _ w a HS rfl HE
    refine o_not HE rfl rfl ?_; clear HE; intro a HE
    refine hK _ _ ?_; clear hK K
    refine cond HE rfl (fun h21 => ?_) (fun h21 => ?_)
    ·have h21r := h21; try simp only [zz1, zz2, zz3, zz4, zz5, zz6, zz7, zz8, zz9, zza, zzb] at h21
     refine wp_seq_k (fun K hK => ?_); refine wp_region_lit ?_
     refine o_assign HE rfl rfl ?_; clear HE; intro a HE
     refine hK _ _ ?_; clear hK K
     refine wp_ret ?_
     show Q .ret _ _
     refine ret hQ HE rfl (HE.res rfl .nil) ⟨_, _, HS.stop (List.nil_sublist _), rfl, ?_⟩
     show _ = _
     simp only [packed, Value.bool.injEq]
     simp only [rightB]
     first | (simp_all; done) | grind
    ·have h21r := h21; try simp only [zz1, zz2, zz3, zz4, zz5, zz6, zz7, zz8, zz9, zza, zzb] at h21
     refine wp_skip ?_
     refine hK18 _ _ ?_; clear hK18
     refine wp_region_lit ?_
     refine o_move HE rfl rfl ?_; clear HE; intro a HE
     refine o_add HE rfl rfl rfl (by omega) ?_; clear HE; intro a HE
     refine o_assign HE rfl rfl ?_; clear HE; intro a HE
     show Code.rounds _ _ _ _ _ _
     replace HE := HE.cut (L' := [(1, .pointer (some ⟨B1, 0, none⟩)), (2, .bool false), (3, .int .i64 2)]) ⟨rfl, rfl, rfl, trivial⟩
     rw [rounds_succ]
     refine wp_seq_k (fun K24 hK23 => ?_)
     refine wp_seq_k (fun K hK => ?_); refine wp_region_lit ?_
     refine o_move HE rfl rfl ?_; clear HE; intro a HE
     refine o_lss HE rfl rfl rfl ?_; clear HE; intro a HE
     refine hK _ _ ?_; clear hK K
     refine cond HE rfl (fun h26 => ?_) (fun h26 => ?_)
     ·have h26r := h26; try simp only [zz1, zz2, zz3, zz4, zz5, zz6, zz7, zz8, zz9, zza, zzb] at h26
      refine wp_skip ?_
      refine hK23 _ _ ?_; clear hK23
      refine wp_seq_k (fun K28 hK27 => ?_)
      refine wp_block ?_
      refine wp_seq_k (fun K hK => ?_); refine wp_region_lit ?_
      refine o_move HE rfl rfl ?_; clear HE; intro a HE
      refine o_move HE rfl rfl ?_; clear HE; intro a HE
      refine o_fld HE rfl rfl T.f26_0 ?_; clear HE; intro a HE
      refine o_ixA HE rfl rfl rfl T.r24 (by decide) ?_; clear HE; intro a HE
      refine o_ldA HE rfl HS rfl T.a23 (.here .here) rfl ?_; clear HE; intro a HE
      refine o_callP HE rfl HS rfl rfl T.g34 (c_Ruled 2 (⟨p.r2.way, p.r2.size⟩ : Rul) _ _ HS.sub) ?_
      clear HE HS; rintro _ w a HS rfl HE
      refine o_not HE rfl rfl ?_; clear HE; intro a HE
      refine hK _ _ ?_; clear hK K
      refine cond HE rfl (fun h30 => ?_) (fun h30 => ?_)
      ·have h30r := h30; try simp only [zz1, zz2, zz3, zz4, zz5, zz6, zz7, zz8, zz9, zza, zzb] at h30
       refine wp_seq_k (fun K hK => ?_); refine wp_region_lit ?_
       refine o_assign HE rfl rfl ?_; clear HE; intro a HE
       refine hK _ _ ?_; clear hK K
       refine wp_ret ?_
       show Q .ret _ _
       refine ret hQ HE rfl (HE.res rfl .nil) ⟨_, _, HS.stop (List.nil_sublist _), rfl, ?_⟩
       show _ = _
       simp only [packed, Value.bool.injEq]
       simp only [rightB]
       first | (simp_all; done) | grind
      ·have h30r := h30; try simp only [zz1, zz2, zz3, zz4, zz5, zz6, zz7, zz8, zz9, zza, zzb] at h30
       refine wp_skip ?_
       refine hK27 _ _ ?_; clear hK27
       refine wp_region_lit ?_
       refine o_move HE rfl rfl ?_; clear HE; intro a HE
       refine o_add HE rfl rfl rfl (by omega) ?_; clear HE; intro a HE
       refine o_assign HE rfl rfl ?_; clear HE; intro a HE
       show Code.rounds _ _ _ _ _ _
       replace HE := HE.cut (L' := [(1, .pointer (some ⟨B1, 0, none⟩)), (2, .bool false), (3, .int .i64 3)]) ⟨rfl, rfl, rfl, trivial⟩
       rw [rounds_succ]
       refine wp_seq_k (fun K33 hK32 => ?_)
       refine wp_seq_k (fun K hK => ?_); refine wp_region_lit ?_
       refine o_move HE rfl rfl ?_; clear HE; intro a HE
       refine o_lss HE rfl rfl rfl ?_; clear HE; intro a HE
       refine hK _ _ ?_; clear hK K
       refine cond HE rfl (fun h35 => ?_) (fun h35 => ?_)
       ·have h35r := h35; try simp only [zz1, zz2, zz3, zz4, zz5, zz6, zz7, zz8, zz9, zza, zzb] at h35
        refine wp_skip ?_
        refine hK32 _ _ ?_; clear hK32
        refine wp_seq_k (fun K37 hK36 => ?_)
        refine wp_block ?_
        refine wp_seq_k (fun K hK => ?_); refine wp_region_lit ?_
        refine o_move HE rfl rfl ?_; clear HE; intro a HE
        refine o_move HE rfl rfl ?_; clear HE; intro a HE
        refine o_fld HE rfl rfl T.f26_0 ?_; clear HE; intro a HE
        refine o_ixA HE rfl rfl rfl T.r24 (by decide) ?_; clear HE; intro a HE
        refine o_ldA HE rfl HS rfl T.a23 (.here .here) rfl ?_; clear HE; intro a HE
        refine o_callP HE rfl HS rfl rfl T.g34 (c_Ruled 3 (⟨p.r3.way, p.r3.size⟩ : Rul) _ _ HS.sub) ?_
        clear HE HS; rintro _ w a HS rfl HE
        refine o_not HE rfl rfl ?_; clear HE; intro a HE
        refine hK _ _ ?_; clear hK K
        refine cond HE rfl (fun h39 => ?_) (fun h39 => ?_)
        ·have h39r := h39; try simp only [zz1, zz2, zz3, zz4, zz5, zz6, zz7, zz8, zz9, zza, zzb] at h39
         refine wp_seq_k (fun K hK => ?_); refine wp_region_lit ?_
         refine o_assign HE rfl rfl ?_; clear HE; intro a HE
         refine hK _ _ ?_; clear hK K
         refine wp_ret ?_
         show Q .ret _ _
         refine ret hQ HE rfl (HE.res rfl .nil) ⟨_, _, HS.stop (List.nil_sublist _), rfl, ?_⟩
         show _ = _
         simp only [packed, Value.bool.injEq]
         simp only [rightB]
         first | (simp_all; done) | grind
        ·have h39r := h39; try simp only [zz1, zz2, zz3, zz4, zz5, zz6, zz7, zz8, zz9, zza, zzb] at h39
         refine wp_skip ?_
         refine hK36 _ _ ?_; clear hK36
         refine wp_region_lit ?_
         refine o_move HE rfl rfl ?_; clear HE; intro a HE
         refine o_add HE rfl rfl rfl (by omega) ?_; clear HE; intro a HE
         refine o_assign HE rfl rfl ?_; clear HE; intro a HE
         show Code.rounds _ _ _ _ _ _
         replace HE := HE.cut (L' := [(1, .pointer (some ⟨B1, 0, none⟩)), (2, .bool false), (3, .int .i64 4)]) ⟨rfl, rfl, rfl, trivial⟩
         rw [rounds_succ]
         refine wp_seq_k (fun K42 hK41 => ?_)
         refine wp_seq_k (fun K hK => ?_); refine wp_region_lit ?_
         refine o_move HE rfl rfl ?_; clear HE; intro a HE
         refine o_lss HE rfl rfl rfl ?_; clear HE; intro a HE
         refine hK _ _ ?_; clear hK K
         refine cond HE rfl (fun h44 => ?_) (fun h44 => ?_)
         ·have h44r := h44; try simp only [zz1, zz2, zz3, zz4, zz5, zz6, zz7, zz8, zz9, zza, zzb] at h44
          refine wp_skip ?_
          refine hK41 _ _ ?_; clear hK41
          refine wp_seq_k (fun K46 hK45 => ?_)
          refine wp_block ?_
          refine wp_seq_k (fun K hK => ?_); refine wp_region_lit ?_
          refine o_move HE rfl rfl ?_; clear HE; intro a HE
          refine o_move HE rfl rfl ?_; clear HE; intro a HE
          refine o_fld HE rfl rfl T.f26_0 ?_; clear HE; intro a HE
          refine o_ixA HE rfl rfl rfl T.r24 (by decide) ?_; clear HE; intro a HE
          refine o_ldA HE rfl HS rfl T.a23 (.here .here) rfl ?_; clear HE; intro a HE
          refine o_callP HE rfl HS rfl rfl T.g34 (c_Ruled 4 (⟨p.r4.way, p.r4.size⟩ : Rul) _ _ HS.sub) ?_
          clear HE HS; rintro _ w a HS rfl HE
          refine o_not HE rfl rfl ?_; clear HE; intro a HE
          refine hK _ _ ?_; clear hK K
          refine cond HE rfl (fun h48 => ?_) (fun h48 => ?_)
          ·have h48r := h48; try simp only [zz1, zz2, zz3, zz4, zz5, zz6, zz7, zz8, zz9, zza, zzb] at h48
           refine wp_seq_k (fun K hK => ?_); refine wp_region_lit ?_
           refine o_assign HE rfl rfl ?_; clear HE; intro a HE
           refine hK _ _ ?_; clear hK K
           refine wp_ret ?_
           show Q .ret _ _
           refine ret hQ HE rfl (HE.res rfl .nil) ⟨_, _, HS.stop (List.nil_sublist _), rfl, ?_⟩
           show _ = _
           simp only [packed, Value.bool.injEq]
           simp only [rightB]
           first | (simp_all; done) | grind
          ·have h48r := h48; try simp only [zz1, zz2, zz3, zz4, zz5, zz6, zz7, zz8, zz9, zza, zzb] at h48
           refine wp_skip ?_
           refine hK45 _ _ ?_; clear hK45
           refine wp_region_lit ?_
           refine o_move HE rfl rfl ?_; clear HE; intro a HE
           refine o_add HE rfl rfl rfl (by omega) ?_; clear HE; intro a HE
           refine o_assign HE rfl rfl ?_; clear HE; intro a HE
           show Code.rounds _ _ _ _ _ _
           replace HE := HE.cut (L' := [(1, .pointer (some ⟨B1, 0, none⟩)), (2, .bool false), (3, .int .i64 5)]) ⟨rfl, rfl, rfl, trivial⟩
           rw [rounds_succ]
           refine wp_seq_k (fun K51 hK50 => ?_)
           refine wp_seq_k (fun K hK => ?_); refine wp_region_lit ?_
           refine o_move HE rfl rfl ?_; clear HE; intro a HE
           refine o_lss HE rfl rfl rfl ?_; clear HE; intro a HE
           refine hK _ _ ?_; clear hK K
           refine cond HE rfl (fun h53 => ?_) (fun h53 => ?_)
           ·exact absurd h53 (by decide)
           ·have h53r := h53; try simp only [zz1, zz2, zz3, zz4, zz5, zz6, zz7, zz8, zz9, zza, zzb] at h53
            refine wp_exit ?_
            refine hK2 _ _ ?_; clear hK2
            refine wp_seq_k (fun K hK => ?_); refine wp_region_lit ?_
            refine o_fld HE rfl rfl T.f26_1 ?_; clear HE; intro a HE
            refine o_ld HE rfl HS rfl T.s3 (.here .here) rfl ?_; clear HE; intro a HE
            refine o_eqI HE rfl rfl rfl ?_; clear HE; intro a HE
            refine o_move HE rfl rfl ?_; clear HE; intro a HE
            refine cutL 4 (fun a' w' => w = w' ∧ Env a' 33 [] [(22, .bool ((decide (p.time = 0)) || (decide (p.time = 3)))), (1, .pointer (some ⟨B1, 0, none⟩)), (2, .bool false), (3, .int .i64 5), (4, .int .i64 5), (5, .bool (decide (5 < 5)))]) ?_ ?_
            ·refine (Bool.eq_false_or_eq_true (decide (p.time = 0))).elim (fun hb54 => ?_) (fun hb54 => ?_)
             ·skip
              have hk55 := hb54; try simp only [zz1, zz2, zz3, zz4, zz5, zz7, zz8, zz9, zza, zzb] at hk55
              refine g_off HE rfl rfl rfl hb54 ?_; clear HE; intro a HE
              refine g_off HE rfl rfl rfl hb54 ?_; clear HE; intro a HE
              refine g_off HE rfl rfl rfl hb54 ?_; clear HE; intro a HE
              refine o_pick_t HE rfl rfl hb54 rfl ?_; clear HE; intro a HE
              exact ⟨rfl, HE.cut ⟨by rw [hb54]; rfl, rfl, rfl, rfl, rfl, rfl, trivial⟩⟩
             ·skip
              have hk56 := hb54; try simp only [zz1, zz2, zz3, zz4, zz5, zz7, zz8, zz9, zza, zzb] at hk56
              refine op_on HE rfl rfl hb54 ?_
              refine o_fld HE rfl rfl T.f26_1 ?_; clear HE; intro a HE
              refine op_on HE rfl rfl hb54 ?_
              refine o_ld HE rfl HS rfl T.s3 (.here .here) rfl ?_; clear HE; intro a HE
              refine op_on HE rfl rfl hb54 ?_
              refine o_eqI HE rfl rfl rfl ?_; clear HE; intro a HE
              refine o_pick_f HE rfl rfl hb54 rfl ?_; clear HE; intro a HE
              exact ⟨rfl, HE.cut ⟨by rw [hb54]; rfl, rfl, rfl, rfl, rfl, rfl, trivial⟩⟩
            clear HE; rintro a _ ⟨rfl, HE⟩
            refine o_move HE rfl rfl ?_; clear HE; intro a HE
            refine cutL 9 (fun a' w' => w = w' ∧ Env a' 33 [] [(32, .bool (((decide (p.time = 0)) || (decide (p.time = 3))) && ((decide (p.note = 0)) || (decide (p.note = 4))))), (1, .pointer (some ⟨B1, 0, none⟩)), (2, .bool false), (3, .int .i64 5), (4, .int .i64 5), (5, .bool (decide (5 < 5)))]) ?_ ?_
            ·refine (Bool.eq_false_or_eq_true ((decide (p.time = 0)) || (decide (p.time = 3)))).elim (fun hb57 => ?_) (fun hb57 => ?_)
             ·skip
              have hk58 := hb57; try simp only [zz1, zz2, zz3, zz4, zz5, zz7, zz8, zz9, zza, zzb] at hk58
              refine op_on HE rfl rfl hb57 ?_
              refine o_fld HE rfl rfl T.f26_2 ?_; clear HE; intro a HE
              refine op_on HE rfl rfl hb57 ?_
              refine o_ld HE rfl HS rfl T.s3 (.here .here) rfl ?_; clear HE; intro a HE
              refine op_on HE rfl rfl hb57 ?_
              refine o_eqI HE rfl rfl rfl ?_; clear HE; intro a HE
              refine op_on HE rfl rfl hb57 ?_
              refine o_move HE rfl rfl ?_; clear HE; intro a HE
              refine cutL 4 (fun a' w' => w = w' ∧ Env a' 33 [] [(31, .bool ((decide (p.note = 0)) || (decide (p.note = 4)))), (1, .pointer (some ⟨B1, 0, none⟩)), (2, .bool false), (3, .int .i64 5), (4, .int .i64 5), (5, .bool (decide (5 < 5))), (23, .bool ((decide (p.time = 0)) || (decide (p.time = 3))))]) ?_ ?_
              ·refine (Bool.eq_false_or_eq_true (decide (p.note = 0))).elim (fun hb59 => ?_) (fun hb59 => ?_)
               ·skip
                have hk60 := hb59; try simp only [zz1, zz2, zz3, zz4, zz5, zz7, zz8, zz9, zza, zzb] at hk60
                refine g_off HE rfl rfl rfl hb59 ?_; clear HE; intro a HE
                refine g_off HE rfl rfl rfl hb59 ?_; clear HE; intro a HE
                refine g_off HE rfl rfl rfl hb59 ?_; clear HE; intro a HE
                refine op_on HE rfl rfl hb57 ?_
                refine o_pick_t HE rfl rfl hb59 rfl ?_; clear HE; intro a HE
                exact ⟨rfl, HE.cut ⟨by rw [hb59]; rfl, rfl, rfl, rfl, rfl, rfl, rfl, trivial⟩⟩
               ·skip
                have hk61 := hb59; try simp only [zz1, zz2, zz3, zz4, zz5, zz7, zz8, zz9, zza, zzb] at hk61
                refine op_on HE rfl rfl hb59 ?_
                refine o_fld HE rfl rfl T.f26_2 ?_; clear HE; intro a HE
                refine op_on HE rfl rfl hb59 ?_
                refine o_ld HE rfl HS rfl T.s3 (.here .here) rfl ?_; clear HE; intro a HE
                refine op_on HE rfl rfl hb59 ?_
                refine o_eqI HE rfl rfl rfl ?_; clear HE; intro a HE
                refine op_on HE rfl rfl hb57 ?_
                refine o_pick_f HE rfl rfl hb59 rfl ?_; clear HE; intro a HE
                exact ⟨rfl, HE.cut ⟨by rw [hb59]; rfl, rfl, rfl, rfl, rfl, rfl, rfl, trivial⟩⟩
              clear HE; rintro a _ ⟨rfl, HE⟩
              refine o_pick_t HE rfl rfl hb57 rfl ?_; clear HE; intro a HE
              exact ⟨rfl, HE.cut ⟨by rw [hb57]; rfl, rfl, rfl, rfl, rfl, rfl, trivial⟩⟩
             ·skip
              have hk62 := hb57; try simp only [zz1, zz2, zz3, zz4, zz5, zz7, zz8, zz9, zza, zzb] at hk62
              refine g_off HE rfl rfl rfl hb57 ?_; clear HE; intro a HE
              refine g_off HE rfl rfl rfl hb57 ?_; clear HE; intro a HE
              refine g_off HE rfl rfl rfl hb57 ?_; clear HE; intro a HE
              refine g_off HE rfl rfl rfl hb57 ?_; clear HE; intro a HE
              refine g_offu HE rfl rfl rfl ?_; clear HE; intro a HE
              refine g_offu HE rfl rfl rfl ?_; clear HE; intro a HE
              refine g_offu HE rfl rfl rfl ?_; clear HE; intro a HE
              refine g_off HE rfl rfl rfl hb57 ?_; clear HE; intro a HE
              refine o_pick_f HE rfl rfl hb57 rfl ?_; clear HE; intro a HE
              exact ⟨rfl, HE.cut ⟨by rw [hb57]; rfl, rfl, rfl, rfl, rfl, rfl, trivial⟩⟩
            clear HE; rintro a _ ⟨rfl, HE⟩
            refine o_assign HE rfl rfl ?_; clear HE; intro a HE
            refine hK _ _ ?_; clear hK K
            refine wp_ret ?_
            show Q .ret _ _
            refine ret hQ HE rfl (HE.res rfl .nil) ⟨_, _, HS.stop (List.nil_sublist _), rfl, ?_⟩
            show _ = _
            simp only [packed, Value.bool.injEq]
            simp only [rightB]
            first | (simp_all; done) | grind
         ·exact absurd h44 (by decide)
       ·exact absurd h35 (by decide)
     ·exact absurd h26 (by decide)
   ·exact absurd h17 (by decide)
 ·exact absurd h8 (by decide)

/-! `incognito/incognitolaw25.wakes` -/
set_option maxRecDepth 100000 in
set_option maxHeartbeats 4000000 in
theorem c_wakes25  (w0 : World) (G : Heap) (hG : Sub G w0) (m8 : Int) (h8 : CellsAt G 8 0 [.int .i64 m8]) (hgw : CellsAt G 1 0 [str [107, 101, 101, 112], str [111, 114, 100, 105, 110, 97, 108], str [107, 101, 121, 101, 100], str [114, 97, 110, 107], str [100, 114, 111, 112]]) (hgd : CellsAt G 0 0 [str [99, 108, 105, 101, 110, 116], str [111, 98, 106, 101, 99, 116], str [118, 97, 108, 117, 101], str [102, 105, 101, 108, 100], str [111, 114, 100, 101, 114]]):
  Calls Tryd.prog 14 #[] w0 (Ret w0 G (fun v _ => v = .bool true)) := by
 refine enter Tryd.func14 rfl Tryd.ntmps14 rfl ?_
 intro Q hQ a HE
 have HS := St.start0 hG
 refine wp_seq_k (fun K hK => ?_); refine wp_region_lit ?_
 refine o_assign HE rfl rfl ?_; clear HE; intro a HE
 refine hK _ _ ?_; clear hK K
 refine wp_seq_k (fun K hK => ?_); refine wp_region_lit ?_
 refine o_callP HE rfl HS rfl rfl T.g17 (c_Parse25 [111, 114, 100, 101, 114, 32, 114, 97, 110, 107, 10] _ _ HS.sub m8 h8 hgw hgd (by first | omega | (simp; done) | (simp; omega))) ?_
 clear HE HS; rintro _ w a HS rfl HE
 refine o_move HE rfl rfl ?_; clear HE; intro a HE
 refine o_extract HE rfl rfl rfl ?_; clear HE; intro a HE
 refine o_extract HE rfl rfl rfl ?_; clear HE; intro a HE
 refine o_allocL [(0, _), (1, _), (2, _), (3, _), (4, _), (5, _), (6, _), (7, _), (8, _), (9, _), (10, _), (11, _), (12, _), (13, _)] HE rfl HS T.z26 ⟨rfl, rfl, rfl, rfl, rfl, rfl, rfl, rfl, rfl, rfl, rfl, rfl, rfl, rfl, trivial⟩ ?_; clear HE HS; intro B1 w a HS HE
 refine o_allocL [(0, _), (1, _)] HE rfl HS T.z33 ⟨rfl, rfl, trivial⟩ ?_; clear HE HS; intro B2 w a HS HE
 refine o_stA HE HS rfl rfl rfl T.a26 (.there (.here .here)) rfl ?_; clear HS; intro w HS
 refine o_stA HE HS rfl rfl rfl T.a33 (.here .here) rfl ?_; clear HS; intro w HS
 refine hK _ _ ?_; clear hK K
 refine wp_seq_k (fun K hK => ?_); refine wp_region_lit ?_
 refine o_callP HE rfl HS rfl rfl T.g17 (c_Parse25 [118, 97, 108, 117, 101, 32, 114, 97, 110, 107, 10] _ _ HS.sub m8 h8 hgw hgd (by first | omega | (simp; done) | (simp; omega))) ?_
 clear HE HS; rintro _ w a HS rfl HE
 refine o_move HE rfl rfl ?_; clear HE; intro a HE
 refine o_extract HE rfl rfl rfl ?_; clear HE; intro a HE
 refine o_extract HE rfl rfl rfl ?_; clear HE; intro a HE
 refine o_allocL [(0, _), (1, _), (2, _), (3, _), (4, _), (5, _), (6, _), (7, _), (8, _), (9, _), (10, _), (11, _), (12, _), (13, _)] HE rfl HS T.z26 ⟨rfl, rfl, rfl, rfl, rfl, rfl, rfl, rfl, rfl, rfl, rfl, rfl, rfl, rfl, trivial⟩ ?_; clear HE HS; intro B3 w a HS HE
 refine o_allocL [(0, _), (1, _)] HE rfl HS T.z33 ⟨rfl, rfl, trivial⟩ ?_; clear HE HS; intro B4 w a HS HE
 refine o_stA HE HS rfl rfl rfl T.a26 (.there (.here .here)) rfl ?_; clear HS; intro w HS
 refine o_stA HE HS rfl rfl rfl T.a33 (.here .here) rfl ?_; clear HS; intro w HS
 refine hK _ _ ?_; clear hK K
 refine wp_seq_k (fun K hK => ?_); refine wp_region_lit ?_
 refine o_build (cs := #[.int .i64 0, .int .i64 0, .int .i64 0, .int .i64 0, .int .i64 0, .int .i64 0, .int .i64 0, .int .i64 0, .int .i64 0, .int .i64 0, .int .i64 0, .int .i64 0, .bool false, .bool false]) HE rfl rfl (by kernel_rfl) ?_; clear HE; intro a HE
 refine o_allocL [(0, _), (1, _), (2, _), (3, _), (4, _), (5, _), (6, _), (7, _), (8, _), (9, _), (10, _), (11, _), (12, _), (13, _)] HE rfl HS T.z26 ⟨rfl, rfl, rfl, rfl, rfl, rfl, rfl, rfl, rfl, rfl, rfl, rfl, rfl, rfl, trivial⟩ ?_; clear HE HS; intro B5 w a HS HE
 refine o_stA HE HS rfl rfl rfl T.a26 (.here .here) rfl ?_; clear HS; intro w HS
 refine hK _ _ ?_; clear hK K
 refine wp_seq_k (fun K hK => ?_); refine wp_region_lit ?_
 refine o_fld HE rfl rfl T.f26_0 ?_; clear HE; intro a HE
 refine o_ixA HE rfl rfl rfl T.r24 (by decide) ?_; clear HE; intro a HE
 refine o_fld HE rfl rfl T.f23_0 ?_; clear HE; intro a HE
 refine o_st HE HS rfl rfl rfl T.s3 (.here .here) rfl ?_; clear HS; intro w HS
 refine hK _ _ ?_; clear hK K
 refine wp_seq_k (fun K hK => ?_); refine wp_region_lit ?_
 refine o_ldA HE rfl HS rfl T.a33 (.there (.there (.there (.here .here)))) rfl ?_; clear HE; intro a HE
 refine o_build (cs := #[.int .i64 0, .int .i64 0]) HE rfl rfl (by kernel_rfl) ?_; clear HE; intro a HE
 refine o_eqA (b := decide ((failC (parseP [111, 114, 100, 101, 114, 32, 114, 97, 110, 107, 10]).2) = 0) && (decide (((parseP [111, 114, 100, 101, 114, 32, 114, 97, 110, 107, 10]).2) = 0) && true)) HE rfl rfl rfl T.q33 rfl rfl ?_; clear HE; intro a HE
 refine o_move HE rfl rfl ?_; clear HE; intro a HE
 refine cutL 4 (fun a' w' => w = w' ∧ Env a' 31 [] [(25, .bool ((decide ((failC (parseP [111, 114, 100, 101, 114, 32, 114, 97, 110, 107, 10]).2) = 0) && (decide (((parseP [111, 114, 100, 101, 114, 32, 114, 97, 110, 107, 10]).2) = 0) && true)) && (decide (((parseP [111, 114, 100, 101, 114, 32, 114, 97, 110, 107, 10]).1.r0.way) = 0) && (decide (((parseP [111, 114, 100, 101, 114, 32, 114, 97, 110, 107, 10]).1.r0.size) = 0) && (decide (((parseP [111, 114, 100, 101, 114, 32, 114, 97, 110, 107, 10]).1.r1.way) = 0) && (decide (((parseP [111, 114, 100, 101, 114, 32, 114, 97, 110, 107, 10]).1.r1.size) = 0) && (decide (((parseP [111, 114, 100, 101, 114, 32, 114, 97, 110, 107, 10]).1.r2.way) = 0) && (decide (((parseP [111, 114, 100, 101, 114, 32, 114, 97, 110, 107, 10]).1.r2.size) = 0) && (decide (((parseP [111, 114, 100, 101, 114, 32, 114, 97, 110, 107, 10]).1.r3.way) = 0) && (decide (((parseP [111, 114, 100, 101, 114, 32, 114, 97, 110, 107, 10]).1.r3.size) = 0) && (decide (((parseP [111, 114, 100, 101, 114, 32, 114, 97, 110, 107, 10]).1.r4.way) = 3) && (decide (((parseP [111, 114, 100, 101, 114, 32, 114, 97, 110, 107, 10]).1.r4.size) = 0) && (decide (((parseP [111, 114, 100, 101, 114, 32, 114, 97, 110, 107, 10]).1.time) = 0) && (decide (((parseP [111, 114, 100, 101, 114, 32, 114, 97, 110, 107, 10]).1.note) = 0) && (((parseP [111, 114, 100, 101, 114, 32, 114, 97, 110, 107, 10]).1.loose) == false && (((parseP [111, 114, 100, 101, 114, 32, 114, 97, 110, 107, 10]).1.force) == false && true)))))))))))))))), (0, .bool false), (1, .pointer (some ⟨B1, 0, none⟩)), (2, .pointer (some ⟨B2, 0, none⟩)), (3, .pointer (some ⟨B3, 0, none⟩)), (4, .pointer (some ⟨B4, 0, none⟩)), (5, .pointer (some ⟨B5, 0, none⟩)), (6, .tuple #[.agg #[.int .i64 ((parseP [111, 114, 100, 101, 114, 32, 114, 97, 110, 107, 10]).1.r0.way), .int .i64 ((parseP [111, 114, 100, 101, 114, 32, 114, 97, 110, 107, 10]).1.r0.size), .int .i64 ((parseP [111, 114, 100, 101, 114, 32, 114, 97, 110, 107, 10]).1.r1.way), .int .i64 ((parseP [111, 114, 100, 101, 114, 32, 114, 97, 110, 107, 10]).1.r1.size), .int .i64 ((parseP [111, 114, 100, 101, 114, 32, 114, 97, 110, 107, 10]).1.r2.way), .int .i64 ((parseP [111, 114, 100, 101, 114, 32, 114, 97, 110, 107, 10]).1.r2.size), .int .i64 ((parseP [111, 114, 100, 101, 114, 32, 114, 97, 110, 107, 10]).1.r3.way), .int .i64 ((parseP [111, 114, 100, 101, 114, 32, 114, 97, 110, 107, 10]).1.r3.size), .int .i64 ((parseP [111, 114, 100, 101, 114, 32, 114, 97, 110, 107, 10]).1.r4.way), .int .i64 ((parseP [111, 114, 100, 101, 114, 32, 114, 97, 110, 107, 10]).1.r4.size), .int .i64 ((parseP [111, 114, 100, 101, 114, 32, 114, 97, 110, 107, 10]).1.time), .int .i64 ((parseP [111, 114, 100, 101, 114, 32, 114, 97, 110, 107, 10]).1.note), .bool ((parseP [111, 114, 100, 101, 114, 32, 114, 97, 110, 107, 10]).1.loose), .bool ((parseP [111, 114, 100, 101, 114, 32, 114, 97, 110, 107, 10]).1.force)], .agg #[.int .i64 (failC (parseP [111, 114, 100, 101, 114, 32, 114, 97, 110, 107, 10]).2), .int .i64 ((parseP [111, 114, 100, 101, 114, 32, 114, 97, 110, 107, 10]).2)]]), (7, .tuple #[.agg #[.int .i64 ((parseP [111, 114, 100, 101, 114, 32, 114, 97, 110, 107, 10]).1.r0.way), .int .i64 ((parseP [111, 114, 100, 101, 114, 32, 114, 97, 110, 107, 10]).1.r0.size), .int .i64 ((parseP [111, 114, 100, 101, 114, 32, 114, 97, 110, 107, 10]).1.r1.way), .int .i64 ((parseP [111, 114, 100, 101, 114, 32, 114, 97, 110, 107, 10]).1.r1.size), .int .i64 ((parseP [111, 114, 100, 101, 114, 32, 114, 97, 110, 107, 10]).1.r2.way), .int .i64 ((parseP [111, 114, 100, 101, 114, 32, 114, 97, 110, 107, 10]).1.r2.size), .int .i64 ((parseP [111, 114, 100, 101, 114, 32, 114, 97, 110, 107, 10]).1.r3.way), .int .i64 ((parseP [111, 114, 100, 101, 114, 32, 114, 97, 110, 107, 10]).1.r3.size), .int .i64 ((parseP [111, 114, 100, 101, 114, 32, 114, 97, 110, 107, 10]).1.r4.way), .int .i64 ((parseP [111, 114, 100, 101, 114, 32, 114, 97, 110, 107, 10]).1.r4.size), .int .i64 ((parseP [111, 114, 100, 101, 114, 32, 114, 97, 110, 107, 10]).1.time), .int .i64 ((parseP [111, 114, 100, 101, 114, 32, 114, 97, 110, 107, 10]).1.note), .bool ((parseP [111, 114, 100, 101, 114, 32, 114, 97, 110, 107, 10]).1.loose), .bool ((parseP [111, 114, 100, 101, 114, 32, 114, 97, 110, 107, 10]).1.force)], .agg #[.int .i64 (failC (parseP [111, 114, 100, 101, 114, 32, 114, 97, 110, 107, 10]).2), .int .i64 ((parseP [111, 114, 100, 101, 114, 32, 114, 97, 110, 107, 10]).2)]]), (8, .agg #[.int .i64 ((parseP [111, 114, 100, 101, 114, 32, 114, 97, 110, 107, 10]).1.r0.way), .int .i64 ((parseP [111, 114, 100, 101, 114, 32, 114, 97, 110, 107, 10]).1.r0.size), .int .i64 ((parseP [111, 114, 100, 101, 114, 32, 114, 97, 110, 107, 10]).1.r1.way), .int .i64 ((parseP [111, 114, 100, 101, 114, 32, 114, 97, 110, 107, 10]).1.r1.size), .int .i64 ((parseP [111, 114, 100, 101, 114, 32, 114, 97, 110, 107, 10]).1.r2.way), .int .i64 ((parseP [111, 114, 100, 101, 114, 32, 114, 97, 110, 107, 10]).1.r2.size), .int .i64 ((parseP [111, 114, 100, 101, 114, 32, 114, 97, 110, 107, 10]).1.r3.way), .int .i64 ((parseP [111, 114, 100, 101, 114, 32, 114, 97, 110, 107, 10]).1.r3.size), .int .i64 ((parseP [111, 114, 100, 101, 114, 32, 114, 97, 110, 107, 10]).1.r4.way), .int .i64 ((parseP [111, 114, 100, 101, 114, 32, 114, 97, 110, 107, 10]).1.r4.size), .int .i64 ((parseP [111, 114, 100, 101, 114, 32, 114, 97, 110, 107, 10]).1.time), .int .i64 ((parseP [111, 114, 100, 101, 114, 32, 114, 97, 110, 107, 10]).1.note), .bool ((parseP [111, 114, 100, 101, 114, 32, 114, 97, 110, 107, 10]).1.loose), .bool ((parseP [111, 114, 100, 101, 114, 32, 114, 97, 110, 107, 10]).1.force)]), (9, .agg #[.int .i64 (failC (parseP [111, 114, 100, 101, 114, 32, 114, 97, 110, 107, 10]).2), .int .i64 ((parseP [111, 114, 100, 101, 114, 32, 114, 97, 110, 107, 10]).2)]), (10, .tuple #[.agg #[.int .i64 ((parseP [118, 97, 108, 117, 101, 32, 114, 97, 110, 107, 10]).1.r0.way), .int .i64 ((parseP [118, 97, 108, 117, 101, 32, 114, 97, 110, 107, 10]).1.r0.size), .int .i64 ((parseP [118, 97, 108, 117, 101, 32, 114, 97, 110, 107, 10]).1.r1.way), .int .i64 ((parseP [118, 97, 108, 117, 101, 32, 114, 97, 110, 107, 10]).1.r1.size), .int .i64 ((parseP [118, 97, 108, 117, 101, 32, 114, 97, 110, 107, 10]).1.r2.way), .int .i64 ((parseP [118, 97, 108, 117, 101, 32, 114, 97, 110, 107, 10]).1.r2.size), .int .i64 ((parseP [118, 97, 108, 117, 101, 32, 114, 97, 110, 107, 10]).1.r3.way), .int .i64 ((parseP [118, 97, 108, 117, 101, 32, 114, 97, 110, 107, 10]).1.r3.size), .int .i64 ((parseP [118, 97, 108, 117, 101, 32, 114, 97, 110, 107, 10]).1.r4.way), .int .i64 ((parseP [118, 97, 108, 117, 101, 32, 114, 97, 110, 107, 10]).1.r4.size), .int .i64 ((parseP [118, 97, 108, 117, 101, 32, 114, 97, 110, 107, 10]).1.time), .int .i64 ((parseP [118, 97, 108, 117, 101, 32, 114, 97, 110, 107, 10]).1.note), .bool ((parseP [118, 97, 108, 117, 101, 32, 114, 97, 110, 107, 10]).1.loose), .bool ((parseP [118, 97, 108, 117, 101, 32, 114, 97, 110, 107, 10]).1.force)], .agg #[.int .i64 (failC (parseP [118, 97, 108, 117, 101, 32, 114, 97, 110, 107, 10]).2), .int .i64 ((parseP [118, 97, 108, 117, 101, 32, 114, 97, 110, 107, 10]).2)]]), (11, .tuple #[.agg #[.int .i64 ((parseP [118, 97, 108, 117, 101, 32, 114, 97, 110, 107, 10]).1.r0.way), .int .i64 ((parseP [118, 97, 108, 117, 101, 32, 114, 97, 110, 107, 10]).1.r0.size), .int .i64 ((parseP [118, 97, 108, 117, 101, 32, 114, 97, 110, 107, 10]).1.r1.way), .int .i64 ((parseP [118, 97, 108, 117, 101, 32, 114, 97, 110, 107, 10]).1.r1.size), .int .i64 ((parseP [118, 97, 108, 117, 101, 32, 114, 97, 110, 107, 10]).1.r2.way), .int .i64 ((parseP [118, 97, 108, 117, 101, 32, 114, 97, 110, 107, 10]).1.r2.size), .int .i64 ((parseP [118, 97, 108, 117, 101, 32, 114, 97, 110, 107, 10]).1.r3.way), .int .i64 ((parseP [118, 97, 108, 117, 101, 32, 114, 97, 110, 107, 10]).1.r3.size), .int .i64 ((parseP [118, 97, 108, 117, 101, 32, 114, 97, 110, 107, 10]).1.r4.way), .int .i64 ((parseP [118, 97, 108, 117, 101, 32, 114, 97, 110, 107, 10]).1.r4.size), .int .i64 ((parseP [118, 97, 108, 117, 101, 32, 114, 97, 110, 107, 10]).1.time), .int .i64 ((parseP [118, 97, 108, 117, 101, 32, 114, 97, 110, 107, 10]).1.note), .bool ((parseP [118, 97, 108, 117, 101, 32, 114, 97, 110, 107, 10]).1.loose), .bool ((parseP [118, 97, 108, 117, 101, 32, 114, 97, 110, 107, 10]).1.force)], .agg #[.int .i64 (failC (parseP [118, 97, 108, 117, 101, 32, 114, 97, 110, 107, 10]).2), .int .i64 ((parseP [118, 97, 108, 117, 101, 32, 114, 97, 110, 107, 10]).2)]]), (12, .agg #[.int .i64 ((parseP [118, 97, 108, 117, 101, 32, 114, 97, 110, 107, 10]).1.r0.way), .int .i64 ((parseP [118, 97, 108, 117, 101, 32, 114, 97, 110, 107, 10]).1.r0.size), .int .i64 ((parseP [118, 97, 108, 117, 101, 32, 114, 97, 110, 107, 10]).1.r1.way), .int .i64 ((parseP [118, 97, 108, 117, 101, 32, 114, 97, 110, 107, 10]).1.r1.size), .int .i64 ((parseP [118, 97, 108, 117, 101, 32, 114, 97, 110, 107, 10]).1.r2.way), .int .i64 ((parseP [118, 97, 108, 117, 101, 32, 114, 97, 110, 107, 10]).1.r2.size), .int .i64 ((parseP [118, 97, 108, 117, 101, 32, 114, 97, 110, 107, 10]).1.r3.way), .int .i64 ((parseP [118, 97, 108, 117, 101, 32, 114, 97, 110, 107, 10]).1.r3.size), .int .i64 ((parseP [118, 97, 108, 117, 101, 32, 114, 97, 110, 107, 10]).1.r4.way), .int .i64 ((parseP [118, 97, 108, 117, 101, 32, 114, 97, 110, 107, 10]).1.r4.size), .int .i64 ((parseP [118, 97, 108, 117, 101, 32, 114, 97, 110, 107, 10]).1.time), .int .i64 ((parseP [118, 97, 108, 117, 101, 32, 114, 97, 110, 107, 10]).1.note), .bool ((parseP [118, 97, 108, 117, 101, 32, 114, 97, 110, 107, 10]).1.loose), .bool ((parseP [118, 97, 108, 117, 101, 32, 114, 97, 110, 107, 10]).1.force)]), (13, .agg #[.int .i64 (failC (parseP [118, 97, 108, 117, 101, 32, 114, 97, 110, 107, 10]).2), .int .i64 ((parseP [118, 97, 108, 117, 101, 32, 114, 97, 110, 107, 10]).2)]), (14, .agg #[.int .i64 0, .int .i64 0, .int .i64 0, .int .i64 0, .int .i64 0, .int .i64 0, .int .i64 0, .int .i64 0, .int .i64 0, .int .i64 0, .int .i64 0, .int .i64 0, .bool false, .bool false]), (15, .pointer (some ⟨B5, 0, none⟩)), (16, .pointer (some ⟨B5, 8, none⟩)), (17, .pointer (some ⟨B5, 8, none⟩))]) ?_ ?_
 ·refine (Bool.eq_false_or_eq_true (decide ((failC (parseP [111, 114, 100, 101, 114, 32, 114, 97, 110, 107, 10]).2) = 0) && (decide (((parseP [111, 114, 100, 101, 114, 32, 114, 97, 110, 107, 10]).2) = 0) && true))).elim (fun hb6 => ?_) (fun hb6 => ?_)
  ·skip
   have hk7 := hb6; try simp only [zz1, zz2, zz3, zz4, zz5, zz7, zz8, zz9, zza, zzb] at hk7
   refine op_on HE rfl rfl hb6 ?_
   refine o_ldA HE rfl HS rfl T.a26 (.there (.there (.there (.there (.here .here))))) rfl ?_; clear HE; intro a HE
   refine op_on HE rfl rfl hb6 ?_
   refine o_ldA HE rfl HS rfl T.a26 (.here .here) rfl ?_; clear HE; intro a HE
   refine op_on HE rfl rfl hb6 ?_
   refine o_eqG (b := decide (((parseP [111, 114, 100, 101, 114, 32, 114, 97, 110, 107, 10]).1.r0.way) = 0) && (decide (((parseP [111, 114, 100, 101, 114, 32, 114, 97, 110, 107, 10]).1.r0.size) = 0) && (decide (((parseP [111, 114, 100, 101, 114, 32, 114, 97, 110, 107, 10]).1.r1.way) = 0) && (decide (((parseP [111, 114, 100, 101, 114, 32, 114, 97, 110, 107, 10]).1.r1.size) = 0) && (decide (((parseP [111, 114, 100, 101, 114, 32, 114, 97, 110, 107, 10]).1.r2.way) = 0) && (decide (((parseP [111, 114, 100, 101, 114, 32, 114, 97, 110, 107, 10]).1.r2.size) = 0) && (decide (((parseP [111, 114, 100, 101, 114, 32, 114, 97, 110, 107, 10]).1.r3.way) = 0) && (decide (((parseP [111, 114, 100, 101, 114, 32, 114, 97, 110, 107, 10]).1.r3.size) = 0) && (decide (((parseP [111, 114, 100, 101, 114, 32, 114, 97, 110, 107, 10]).1.r4.way) = 3) && (decide (((parseP [111, 114, 100, 101, 114, 32, 114, 97, 110, 107, 10]).1.r4.size) = 0) && (decide (((parseP [111, 114, 100, 101, 114, 32, 114, 97, 110, 107, 10]).1.time) = 0) && (decide (((parseP [111, 114, 100, 101, 114, 32, 114, 97, 110, 107, 10]).1.note) = 0) && (((parseP [111, 114, 100, 101, 114, 32, 114, 97, 110, 107, 10]).1.loose) == false && (((parseP [111, 114, 100, 101, 114, 32, 114, 97, 110, 107, 10]).1.force) == false && true)))))))))))))) HE rfl rfl rfl T.Q26 rfl rfl ?_; clear HE; intro a HE
   refine o_pick_t HE rfl rfl hb6 rfl ?_; clear HE; intro a HE
   exact ⟨rfl, HE.cut ⟨by rw [hb6]; rfl, rfl, rfl, rfl, rfl, rfl, rfl, rfl, rfl, rfl, rfl, rfl, rfl, rfl, rfl, rfl, rfl, rfl, rfl, trivial⟩⟩
  ·skip
   have hk8 := hb6; try simp only [zz1, zz2, zz3, zz4, zz5, zz7, zz8, zz9, zza, zzb] at hk8
   refine g_off HE rfl rfl rfl hb6 ?_; clear HE; intro a HE
   refine g_off HE rfl rfl rfl hb6 ?_; clear HE; intro a HE
   refine g_off HE rfl rfl rfl hb6 ?_; clear HE; intro a HE
   refine o_pick_f HE rfl rfl hb6 rfl ?_; clear HE; intro a HE
   exact ⟨rfl, HE.cut ⟨by rw [hb6]; rfl, rfl, rfl, rfl, rfl, rfl, rfl, rfl, rfl, rfl, rfl, rfl, rfl, rfl, rfl, rfl, rfl, rfl, rfl, trivial⟩⟩
 clear HE; rintro a _ ⟨rfl, HE⟩
 refine o_move HE rfl rfl ?_; clear HE; intro a HE
 refine cutL 4 (fun a' w' => w = w' ∧ Env a' 31 [] [(30, .bool (((decide ((failC (parseP [111, 114, 100, 101, 114, 32, 114, 97, 110, 107, 10]).2) = 0) && (decide (((parseP [111, 114, 100, 101, 114, 32, 114, 97, 110, 107, 10]).2) = 0) && true)) && (decide (((parseP [111, 114, 100, 101, 114, 32, 114, 97, 110, 107, 10]).1.r0.way) = 0) && (decide (((parseP [111, 114, 100, 101, 114, 32, 114, 97, 110, 107, 10]).1.r0.size) = 0) && (decide (((parseP [111, 114, 100, 101, 114, 32, 114, 97, 110, 107, 10]).1.r1.way) = 0) && (decide (((parseP [111, 114, 100, 101, 114, 32, 114, 97, 110, 107, 10]).1.r1.size) = 0) && (decide (((parseP [111, 114, 100, 101, 114, 32, 114, 97, 110, 107, 10]).1.r2.way) = 0) && (decide (((parseP [111, 114, 100, 101, 114, 32, 114, 97, 110, 107, 10]).1.r2.size) = 0) && (decide (((parseP [111, 114, 100, 101, 114, 32, 114, 97, 110, 107, 10]).1.r3.way) = 0) && (decide (((parseP [111, 114, 100, 101, 114, 32, 114, 97, 110, 107, 10]).1.r3.size) = 0) && (decide (((parseP [111, 114, 100, 101, 114, 32, 114, 97, 110, 107, 10]).1.r4.way) = 3) && (decide (((parseP [111, 114, 100, 101, 114, 32, 114, 97, 110, 107, 10]).1.r4.size) = 0) && (decide (((parseP [111, 114, 100, 101, 114, 32, 114, 97, 110, 107, 10]).1.time) = 0) && (decide (((parseP [111, 114, 100, 101, 114, 32, 114, 97, 110, 107, 10]).1.note) = 0) && (((parseP [111, 114, 100, 101, 114, 32, 114, 97, 110, 107, 10]).1.loose) == false && (((parseP [111, 114, 100, 101, 114, 32, 114, 97, 110, 107, 10]).1.force) == false && true))))))))))))))) && (decide ((failC (parseP [118, 97, 108, 117, 101, 32, 114, 97, 110, 107, 10]).2) = 6) && (decide (((parseP [118, 97, 108, 117, 101, 32, 114, 97, 110, 107, 10]).2) = 1) && true)))), (0, .bool false), (1, .pointer (some ⟨B1, 0, none⟩)), (2, .pointer (some ⟨B2, 0, none⟩)), (3, .pointer (some ⟨B3, 0, none⟩)), (4, .pointer (some ⟨B4, 0, none⟩)), (5, .pointer (some ⟨B5, 0, none⟩)), (6, .tuple #[.agg #[.int .i64 ((parseP [111, 114, 100, 101, 114, 32, 114, 97, 110, 107, 10]).1.r0.way), .int .i64 ((parseP [111, 114, 100, 101, 114, 32, 114, 97, 110, 107, 10]).1.r0.size), .int .i64 ((parseP [111, 114, 100, 101, 114, 32, 114, 97, 110, 107, 10]).1.r1.way), .int .i64 ((parseP [111, 114, 100, 101, 114, 32, 114, 97, 110, 107, 10]).1.r1.size), .int .i64 ((parseP [111, 114, 100, 101, 114, 32, 114, 97, 110, 107, 10]).1.r2.way), .int .i64 ((parseP [111, 114, 100, 101, 114, 32, 114, 97, 110, 107, 10]).1.r2.size), .int .i64 ((parseP [111, 114, 100, 101, 114, 32, 114, 97, 110, 107, 10]).1.r3.way), .int .i64 ((parseP [111, 114, 100, 101, 114, 32, 114, 97, 110, 107, 10]).1.r3.size), .int .i64 ((parseP [111, 114, 100, 101, 114, 32, 114, 97, 110, 107, 10]).1.r4.way), .int .i64 ((parseP [111, 114, 100, 101, 114, 32, 114, 97, 110, 107, 10]).1.r4.size), .int .i64 ((parseP [111, 114, 100, 101, 114, 32, 114, 97, 110, 107, 10]).1.time), .int .i64 ((parseP [111, 114, 100, 101, 114, 32, 114, 97, 110, 107, 10]).1.note), .bool ((parseP [111, 114, 100, 101, 114, 32, 114, 97, 110, 107, 10]).1.loose), .bool ((parseP [111, 114, 100, 101, 114, 32, 114, 97, 110, 107, 10]).1.force)], .agg #[.int .i64 (failC (parseP [111, 114, 100, 101, 114, 32, 114, 97, 110, 107, 10]).2), .int .i64 ((parseP [111, 114, 100, 101, 114, 32, 114, 97, 110, 107, 10]).2)]]), (7, .tuple #[.agg #[.int .i64 ((parseP [111, 114, 100, 101, 114, 32, 114, 97, 110, 107, 10]).1.r0.way), .int .i64 ((parseP [111, 114, 100, 101, 114, 32, 114, 97, 110, 107, 10]).1.r0.size), .int .i64 ((parseP [111, 114, 100, 101, 114, 32, 114, 97, 110, 107, 10]).1.r1.way), .int .i64 ((parseP [111, 114, 100, 101, 114, 32, 114, 97, 110, 107, 10]).1.r1.size), .int .i64 ((parseP [111, 114, 100, 101, 114, 32, 114, 97, 110, 107, 10]).1.r2.way), .int .i64 ((parseP [111, 114, 100, 101, 114, 32, 114, 97, 110, 107, 10]).1.r2.size), .int .i64 ((parseP [111, 114, 100, 101, 114, 32, 114, 97, 110, 107, 10]).1.r3.way), .int .i64 ((parseP [111, 114, 100, 101, 114, 32, 114, 97, 110, 107, 10]).1.r3.size), .int .i64 ((parseP [111, 114, 100, 101, 114, 32, 114, 97, 110, 107, 10]).1.r4.way), .int .i64 ((parseP [111, 114, 100, 101, 114, 32, 114, 97, 110, 107, 10]).1.r4.size), .int .i64 ((parseP [111, 114, 100, 101, 114, 32, 114, 97, 110, 107, 10]).1.time), .int .i64 ((parseP [111, 114, 100, 101, 114, 32, 114, 97, 110, 107, 10]).1.note), .bool ((parseP [111, 114, 100, 101, 114, 32, 114, 97, 110, 107, 10]).1.loose), .bool ((parseP [111, 114, 100, 101, 114, 32, 114, 97, 110, 107, 10]).1.force)], .agg #[.int .i64 (failC (parseP [111, 114, 100, 101, 114, 32, 114, 97, 110, 107, 10]).2), .int .i64 ((parseP [111, 114, 100, 101, 114, 32, 114, 97, 110, 107, 10]).2)]]), (8, .agg #[.int .i64 ((parseP [111, 114, 100, 101, 114, 32, 114, 97, 110, 107, 10]).1.r0.way), .int .i64 ((parseP [111, 114, 100, 101, 114, 32, 114, 97, 110, 107, 10]).1.r0.size), .int .i64 ((parseP [111, 114, 100, 101, 114, 32, 114, 97, 110, 107, 10]).1.r1.way), .int .i64 ((parseP [111, 114, 100, 101, 114, 32, 114, 97, 110, 107, 10]).1.r1.size), .int .i64 ((parseP [111, 114, 100, 101, 114, 32, 114, 97, 110, 107, 10]).1.r2.way), .int .i64 ((parseP [111, 114, 100, 101, 114, 32, 114, 97, 110, 107, 10]).1.r2.size), .int .i64 ((parseP [111, 114, 100, 101, 114, 32, 114, 97, 110, 107, 10]).1.r3.way), .int .i64 ((parseP [111, 114, 100, 101, 114, 32, 114, 97, 110, 107, 10]).1.r3.size), .int .i64 ((parseP [111, 114, 100, 101, 114, 32, 114, 97, 110, 107, 10]).1.r4.way), .int .i64 ((parseP [111, 114, 100, 101, 114, 32, 114, 97, 110, 107, 10]).1.r4.size), .int .i64 ((parseP [111, 114, 100, 101, 114, 32, 114, 97, 110, 107, 10]).1.time), .int .i64 ((parseP [111, 114, 100, 101, 114, 32, 114, 97, 110, 107, 10]).1.note), .bool ((parseP [111, 114, 100, 101, 114, 32, 114, 97, 110, 107, 10]).1.loose), .bool ((parseP [111, 114, 100, 101, 114, 32, 114, 97, 110, 107, 10]).1.force)]), (9, .agg #[.int .i64 (failC (parseP [111, 114, 100, 101, 114, 32, 114, 97, 110, 107, 10]).2), .int .i64 ((parseP [111, 114, 100, 101, 114, 32, 114, 97, 110, 107, 10]).2)]), (10, .tuple #[.agg #[.int .i64 ((parseP [118, 97, 108, 117, 101, 32, 114, 97, 110, 107, 10]).1.r0.way), .int .i64 ((parseP [118, 97, 108, 117, 101, 32, 114, 97, 110, 107, 10]).1.r0.size), .int .i64 ((parseP [118, 97, 108, 117, 101, 32, 114, 97, 110, 107, 10]).1.r1.way), .int .i64 ((parseP [118, 97, 108, 117, 101, 32, 114, 97, 110, 107, 10]).1.r1.size), .int .i64 ((parseP [118, 97, 108, 117, 101, 32, 114, 97, 110, 107, 10]).1.r2.way), .int .i64 ((parseP [118, 97, 108, 117, 101, 32, 114, 97, 110, 107, 10]).1.r2.size), .int .i64 ((parseP [118, 97, 108, 117, 101, 32, 114, 97, 110, 107, 10]).1.r3.way), .int .i64 ((parseP [118, 97, 108, 117, 101, 32, 114, 97, 110, 107, 10]).1.r3.size), .int .i64 ((parseP [118, 97, 108, 117, 101, 32, 114, 97, 110, 107, 10]).1.r4.way), .int .i64 ((parseP [118, 97, 108, 117, 101, 32, 114, 97, 110, 107, 10]).1.r4.size), .int .i64 ((parseP [118, 97, 108, 117, 101, 32, 114, 97, 110, 107, 10]).1.time), .int .i64 ((parseP [118, 97, 108, 117, 101, 32, 114, 97, 110, 107, 10]).1.note), .bool ((parseP [118, 97, 108, 117, 101, 32, 114, 97, 110, 107, 10]).1.loose), .bool ((parseP [118, 97, 108, 117, 101, 32, 114, 97, 110, 107, 10]).1.force)], .agg #[.int .i64 (failC (parseP [118, 97, 108, 117, 101, 32, 114, 97, 110, 107, 10]).2), .int .i64 ((parseP [118, 97, 108, 117, 101, 32, 114, 97, 110, 107, 10]).2)]]), (11, .tuple #[.agg #[.int .i64 ((parseP [118, 97, 108, 117, 101, 32, 114, 97, 110, 107, 10]).1.r0.way), .int .i64 ((parseP [118, 97, 108, 117, 101, 32, 114, 97, 110, 107, 10]).1.r0.size), .int .i64 ((parseP [118, 97, 108, 117, 101, 32, 114, 97, 110, 107, 10]).1.r1.way), .int .i64 ((parseP [118, 97, 108, 117, 101, 32, 114, 97, 110, 107, 10]).1.r1.size), .int .i64 ((parseP [118, 97, 108, 117, 101, 32, 114, 97, 110, 107, 10]).1.r2.way), .int .i64 ((parseP [118, 97, 108, 117, 101, 32, 114, 97, 110, 107, 10]).1.r2.size), .int .i64 ((parseP [118, 97, 108, 117, 101, 32, 114, 97, 110, 107, 10]).1.r3.way), .int .i64 ((parseP [118, 97, 108, 117, 101, 32, 114, 97, 110, 107, 10]).1.r3.size), .int .i64 ((parseP [118, 97, 108, 117, 101, 32, 114, 97, 110, 107, 10]).1.r4.way), .int .i64 ((parseP [118, 97, 108, 117, 101, 32, 114, 97, 110, 107, 10]).1.r4.size), .int .i64 ((parseP [118, 97, 108, 117, 101, 32, 114, 97, 110, 107, 10]).1.time), .int .i64 ((parseP [118, 97, 108, 117, 101, 32, 114, 97, 110, 107, 10]).1.note), .bool ((parseP [118, 97, 108, 117, 101, 32, 114, 97, 110, 107, 10]).1.loose), .bool ((parseP [118, 97, 108, 117, 101, 32, 114, 97, 110, 107, 10]).1.force)], .agg #[.int .i64 (failC (parseP [118, 97, 108, 117, 101, 32, 114, 97, 110, 107, 10]).2), .int .i64 ((parseP [118, 97, 108, 117, 101, 32, 114, 97, 110, 107, 10]).2)]]), (12, .agg #[.int .i64 ((parseP [118, 97, 108, 117, 101, 32, 114, 97, 110, 107, 10]).1.r0.way), .int .i64 ((parseP [118, 97, 108, 117, 101, 32, 114, 97, 110, 107, 10]).1.r0.size), .int .i64 ((parseP [118, 97, 108, 117, 101, 32, 114, 97, 110, 107, 10]).1.r1.way), .int .i64 ((parseP [118, 97, 108, 117, 101, 32, 114, 97, 110, 107, 10]).1.r1.size), .int .i64 ((parseP [118, 97, 108, 117, 101, 32, 114, 97, 110, 107, 10]).1.r2.way), .int .i64 ((parseP [118, 97, 108, 117, 101, 32, 114, 97, 110, 107, 10]).1.r2.size), .int .i64 ((parseP [118, 97, 108, 117, 101, 32, 114, 97, 110, 107, 10]).1.r3.way), .int .i64 ((parseP [118, 97, 108, 117, 101, 32, 114, 97, 110, 107, 10]).1.r3.size), .int .i64 ((parseP [118, 97, 108, 117, 101, 32, 114, 97, 110, 107, 10]).1.r4.way), .int .i64 ((parseP [118, 97, 108, 117, 101, 32, 114, 97, 110, 107, 10]).1.r4.size), .int .i64 ((parseP [118, 97, 108, 117, 101, 32, 114, 97, 110, 107, 10]).1.time), .int .i64 ((parseP [118, 97, 108, 117, 101, 32, 114, 97, 110, 107, 10]).1.note), .bool ((parseP [118, 97, 108, 117, 101, 32, 114, 97, 110, 107, 10]).1.loose), .bool ((parseP [118, 97, 108, 117, 101, 32, 114, 97, 110, 107, 10]).1.force)]), (13, .agg #[.int .i64 (failC (parseP [118, 97, 108, 117, 101, 32, 114, 97, 110, 107, 10]).2), .int .i64 ((parseP [118, 97, 108, 117, 101, 32, 114, 97, 110, 107, 10]).2)]), (14, .agg #[.int .i64 0, .int .i64 0, .int .i64 0, .int .i64 0, .int .i64 0, .int .i64 0, .int .i64 0, .int .i64 0, .int .i64 0, .int .i64 0, .int .i64 0, .int .i64 0, .bool false, .bool false]), (15, .pointer (some ⟨B5, 0, none⟩)), (16, .pointer (some ⟨B5, 8, none⟩)), (17, .pointer (some ⟨B5, 8, none⟩))]) ?_ ?_
 ·refine (Bool.eq_false_or_eq_true ((decide ((failC (parseP [111, 114, 100, 101, 114, 32, 114, 97, 110, 107, 10]).2) = 0) && (decide (((parseP [111, 114, 100, 101, 114, 32, 114, 97, 110, 107, 10]).2) = 0) && true)) && (decide (((parseP [111, 114, 100, 101, 114, 32, 114, 97, 110, 107, 10]).1.r0.way) = 0) && (decide (((parseP [111, 114, 100, 101, 114, 32, 114, 97, 110, 107, 10]).1.r0.size) = 0) && (decide (((parseP [111, 114, 100, 101, 114, 32, 114, 97, 110, 107, 10]).1.r1.way) = 0) && (decide (((parseP [111, 114, 100, 101, 114, 32, 114, 97, 110, 107, 10]).1.r1.size) = 0) && (decide (((parseP [111, 114, 100, 101, 114, 32, 114, 97, 110, 107, 10]).1.r2.way) = 0) && (decide (((parseP [111, 114, 100, 101, 114, 32, 114, 97, 110, 107, 10]).1.r2.size) = 0) && (decide (((parseP [111, 114, 100, 101, 114, 32, 114, 97, 110, 107, 10]).1.r3.way) = 0) && (decide (((parseP [111, 114, 100, 101, 114, 32, 114, 97, 110, 107, 10]).1.r3.size) = 0) && (decide (((parseP [111, 114, 100, 101, 114, 32, 114, 97, 110, 107, 10]).1.r4.way) = 3) && (decide (((parseP [111, 114, 100, 101, 114, 32, 114, 97, 110, 107, 10]).1.r4.size) = 0) && (decide (((parseP [111, 114, 100, 101, 114, 32, 114, 97, 110, 107, 10]).1.time) = 0) && (decide (((parseP [111, 114, 100, 101, 114, 32, 114, 97, 110, 107, 10]).1.note) = 0) && (((parseP [111, 114, 100, 101, 114, 32, 114, 97, 110, 107, 10]).1.loose) == false && (((parseP [111, 114, 100, 101, 114, 32, 114, 97, 110, 107, 10]).1.force) == false && true)))))))))))))))).elim (fun hb9 => ?_) (fun hb9 => ?_)
  ·skip
   have hk10 := hb9; try simp only [zz1, zz2, zz3, zz4, zz5, zz7, zz8, zz9, zza, zzb] at hk10
   refine op_on HE rfl rfl hb9 ?_
   refine o_ldA HE rfl HS rfl T.a33 (.there (.here .here)) rfl ?_; clear HE; intro a HE
   refine op_on HE rfl rfl hb9 ?_
   refine o_build (cs := #[.int .i64 6, .int .i64 1]) HE rfl rfl (by kernel_rfl) ?_; clear HE; intro a HE
   refine op_on HE rfl rfl hb9 ?_
   refine o_eqA (b := decide ((failC (parseP [118, 97, 108, 117, 101, 32, 114, 97, 110, 107, 10]).2) = 6) && (decide (((parseP [118, 97, 108, 117, 101, 32, 114, 97, 110, 107, 10]).2) = 1) && true)) HE rfl rfl rfl T.q33 rfl rfl ?_; clear HE; intro a HE
   refine o_pick_t HE rfl rfl hb9 rfl ?_; clear HE; intro a HE
   exact ⟨rfl, HE.cut ⟨by rw [hb9]; rfl, rfl, rfl, rfl, rfl, rfl, rfl, rfl, rfl, rfl, rfl, rfl, rfl, rfl, rfl, rfl, rfl, rfl, rfl, trivial⟩⟩
  ·skip
   have hk11 := hb9; try simp only [zz1, zz2, zz3, zz4, zz5, zz7, zz8, zz9, zza, zzb] at hk11
   refine g_off HE rfl rfl rfl hb9 ?_; clear HE; intro a HE
   refine g_off HE rfl rfl rfl hb9 ?_; clear HE; intro a HE
   refine g_off HE rfl rfl rfl hb9 ?_; clear HE; intro a HE
   refine o_pick_f HE rfl rfl hb9 rfl ?_; clear HE; intro a HE
   exact ⟨rfl, HE.cut ⟨by rw [hb9]; rfl, rfl, rfl, rfl, rfl, rfl, rfl, rfl, rfl, rfl, rfl, rfl, rfl, rfl, rfl, rfl, rfl, rfl, rfl, trivial⟩⟩
 clear HE; rintro a _ ⟨rfl, HE⟩
 refine o_assign HE rfl rfl ?_; clear HE; intro a HE
 refine hK _ _ ?_; clear hK K
 refine wp_ret ?_
 show Q .ret _ _
 refine ret hQ HE rfl (HE.res rfl .nil) ⟨_, _, HS.stop (List.nil_sublist _), rfl, ?_⟩
 show _ = _
 simp only [wake1, wake2]
 rfl

end Go.Proofs.YtiinipcmghhacaaDoor.T10
