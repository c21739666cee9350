/- Chapter 25 walked: words, lines, kinds. -/
import Derived.Test.YtiinipcmghhacaaDoorA8a
set_option linter.unusedVariables false
set_option linter.unusedSimpArgs false
namespace Go.Proofs.YtiinipcmghhacaaDoor.T10
open Go Go.Proofs.YtiinipcmghhacaaDoor.X
/-! `incognito/policy.rule$1` -/
set_option maxRecDepth 100000 in
set_option maxHeartbeats 4000000 in
theorem c_rule3 (P : Pol) (l : List Bs) (A : Option Addr) (c : Nat) (bp : Nat) (bd : Nat) {W0 : World} {H0 : Heap} {L0 : List Nat} {M0 : List Chunk} (w0 : World) (G : Heap) (hS0 : St W0 H0 L0 G w0 ([(bp, Cells 26 [(0, .int .i64 P.r0.way), (1, .int .i64 P.r0.size), (2, .int .i64 P.r1.way), (3, .int .i64 P.r1.size), (4, .int .i64 P.r2.way), (5, .int .i64 P.r2.size), (6, .int .i64 P.r3.way), (7, .int .i64 P.r3.size), (8, .int .i64 P.r4.way), (9, .int .i64 P.r4.size), (10, .int .i64 P.time), (11, .int .i64 P.note), (12, .bool P.loose), (13, .bool P.force)])] :: M0)) (hR : Rd Knd.s G A l) (hc : l.length ≤ c) (hl : l.length ≤ 4294967281) (hls : ∀ x ∈ l, x.length ≤ 4294967280) (hCd : CellsAt G bd 0 [.int .i64 3]) (hgw : CellsAt G 1 0 [str [107, 101, 101, 112], str [111, 114, 100, 105, 110, 97, 108], str [107, 101, 121, 101, 100], str [114, 97, 110, 107], str [100, 114, 111, 112]]):
  Calls Tryd.prog 103 #[.pointer (some ⟨bp, 0, none⟩), .slice A l.length c, .pointer (some ⟨bd, 0, none⟩)] w0 (X.Ends w0 G [bp] (fun v G' C' => v = .bool (ruleS 3 P l).2 ∧ C' = [(bp, Cells 26 (pcE (ruleS 3 P l).1))]) (fun _ _ _ => False)) := by
 refine enter Tryd.func103 rfl Tryd.ntmps103 rfl ?_
 intro Q hQ a HE
 have HS := St.start (C := [(bp, Cells 26 [(0, .int .i64 P.r0.way), (1, .int .i64 P.r0.size), (2, .int .i64 P.r1.way), (3, .int .i64 P.r1.size), (4, .int .i64 P.r2.way), (5, .int .i64 P.r2.size), (6, .int .i64 P.r3.way), (7, .int .i64 P.r3.size), (8, .int .i64 P.r4.way), (9, .int .i64 P.r4.size), (10, .int .i64 P.time), (11, .int .i64 P.note), (12, .bool P.loose), (13, .bool P.force)])]) hS0.sub (fun p hp => hS0.mem p (by simp only [List.flatten_cons, List.mem_append]; exact .inl hp)) (fun p hp => hS0.sep p (by simp only [List.flatten_cons, List.mem_append]; exact .inl hp)) (by simp [X.keys])
 change St w0 G [bp] G w0 _ at HS
 refine wp_seq_k (fun K hK => ?_); refine wp_region_lit ?_
 refine o_assign HE rfl rfl ?_; clear HE; intro a HE
 refine hK _ _ ?_; clear hK K
 refine wp_seq_k (fun K3 hK2 => ?_)
 refine wp_seq_k (fun K hK => ?_); refine wp_region_lit ?_
 refine o_move HE rfl rfl ?_; clear HE; intro a HE
 refine o_lenL HE rfl rfl Tryd.underlying29 ?_; clear HE; intro a HE
 refine o_eqI HE rfl rfl rfl ?_; clear HE; intro a HE
 refine hK _ _ ?_; clear hK K
 refine cond HE rfl (fun h5 => ?_) (fun h5 => ?_)
 ·have h5r := h5; try simp only [zz1, zz2, zz3, zz4, zz5, zz6, zz7, zz8, zz9, zza, zzb] at h5
  refine wp_seq_k (fun K hK => ?_); refine wp_region_lit ?_
  refine o_assign HE rfl rfl ?_; clear HE; intro a HE
  refine hK _ _ ?_; clear hK K
  refine wp_ret ?_
  show Q .ret _ _
  refine ret hQ HE rfl (HE.res rfl .nil) ?_
  have he : ruleS 3 P l = ((⟨⟨P.r0.way, P.r0.size⟩, ⟨P.r1.way, P.r1.size⟩, ⟨P.r2.way, P.r2.size⟩, ⟨P.r3.way, P.r3.size⟩, ⟨P.r4.way, P.r4.size⟩, P.time, P.note, P.loose, P.force⟩ : Pol), false) := by
   unfold ruleS
   rw [if_pos (by omega)]
  exact ⟨_, [(bp, Cells 26 [(0, .int .i64 P.r0.way), (1, .int .i64 P.r0.size), (2, .int .i64 P.r1.way), (3, .int .i64 P.r1.size), (4, .int .i64 P.r2.way), (5, .int .i64 P.r2.size), (6, .int .i64 P.r3.way), (7, .int .i64 P.r3.size), (8, .int .i64 P.r4.way), (9, .int .i64 P.r4.size), (10, .int .i64 P.time), (11, .int .i64 P.note), (12, .bool P.loose), (13, .bool P.force)])], HS.stop (by simp), by rw [he] <;> rfl, by rw [he] <;> rfl⟩
 ·have h5r := h5; try simp only [zz1, zz2, zz3, zz4, zz5, zz6, zz7, zz8, zz9, zza, zzb] at h5
  refine wp_skip ?_
  refine hK2 _ _ ?_; clear hK2
  refine wp_seq_k (fun K hK => ?_); refine wp_region_lit ?_
  refine o_move HE rfl rfl ?_; clear HE; intro a HE
  have hi7 : (0 : Int).toNat < l.length := by omega
  obtain ⟨eb7, eo7, hA7, el7⟩ := Rd.at hR (List.getElem?_eq_getElem hi7); cases hA7
  obtain ⟨x7, ex7⟩ : ∃ x, l[(0 : Int).toNat] = x := ⟨_, rfl⟩; rw [ex7] at el7
  have el7 := kof_open (enc := fun l => str l) el7
  refine o_ixL HE rfl rfl rfl T.l29 ⟨by omega, by omega⟩ ?_; clear HE; intro a HE
  refine o_ldI HE rfl HS rfl T.s9 el7 (j := 0) rfl rfl ?_; clear HE; intro a HE
  refine o_callP HE rfl HS rfl rfl T.g72 (c_way x7 _ _ HS.sub hgw) ?_
  clear HE HS; rintro _ w a HS rfl HE
  refine o_move HE rfl rfl ?_; clear HE; intro a HE
  refine o_extract HE rfl rfl rfl ?_; clear HE; intro a HE
  refine o_extract HE rfl rfl rfl ?_; clear HE; intro a HE
  refine o_assign HE rfl rfl ?_; clear HE; intro a HE
  refine o_assign HE rfl rfl ?_; clear HE; intro a HE
  refine hK _ _ ?_; clear hK K
  refine wp_seq_k (fun K hK => ?_); refine wp_region_lit ?_
  refine o_move HE rfl rfl ?_; clear HE; intro a HE
  refine o_build (cs := #[.int .i64 ((wayS x7).1), .int .i64 0]) HE rfl rfl (by kernel_rfl) ?_; clear HE; intro a HE
  refine o_allocL [(0, _), (1, _)] HE rfl HS T.z23 ⟨rfl, rfl, trivial⟩ ?_; clear HE HS; intro B8 w a HS HE
  refine o_stA HE HS rfl rfl rfl T.a23 (.here .here) rfl ?_; clear HS; intro w HS
  refine hK _ _ ?_; clear hK K
  refine wp_seq_k (fun K11 hK10 => ?_)
  refine wp_seq_k (fun K hK => ?_); refine wp_region_lit ?_
  refine o_move HE rfl rfl ?_; clear HE; intro a HE
  refine o_eqI HE rfl rfl rfl ?_; clear HE; intro a HE
  refine o_move HE rfl rfl ?_; clear HE; intro a HE
  refine cutL 4 (fun a' w' => w = w' ∧ Env a' 63 [] [(29, .bool ((decide (((wayS x7).1) = 2)) && (decide ((l.length : Int) = 2)))), (0, .pointer (some ⟨bp, 0, none⟩)), (1, .slice (some ⟨eb7, eo7, none⟩) l.length c), (2, .pointer (some ⟨bd, 0, none⟩)), (5, .bool false), (6, .int .i64 ((wayS x7).1)), (7, .bool ((wayS x7).2)), (8, .pointer (some ⟨B8, 0, none⟩)), (11, .slice (some ⟨eb7, eo7, none⟩) l.length c), (12, .int .i64 (l.length : Int)), (13, .bool (decide ((l.length : Int) = 0))), (14, .tuple #[.int .i64 ((wayS x7).1), .bool ((wayS x7).2)]), (15, .slice (some ⟨eb7, eo7, none⟩) l.length c), (16, .pointer (some ⟨eb7, eo7 + (0 : Int).toNat * 1, none⟩)), (17, str x7), (18, .tuple #[.int .i64 ((wayS x7).1), .bool ((wayS x7).2)]), (19, .int .i64 ((wayS x7).1)), (20, .bool ((wayS x7).2)), (21, .int .i64 ((wayS x7).1)), (22, .agg #[.int .i64 ((wayS x7).1), .int .i64 0])]) ?_ ?_
  ·refine (Bool.eq_false_or_eq_true (decide (((wayS x7).1) = 2))).elim (fun hb12 => ?_) (fun hb12 => ?_)
   ·skip
    have hk13 := hb12; try simp only [zz1, zz2, zz3, zz4, zz5, zz7, zz8, zz9, zza, zzb] at hk13
    refine op_on HE rfl rfl hb12 ?_
    refine o_move HE rfl rfl ?_; clear HE; intro a HE
    refine op_on HE rfl rfl hb12 ?_
    refine o_lenL HE rfl rfl Tryd.underlying29 ?_; clear HE; intro a HE
    refine op_on HE rfl rfl hb12 ?_
    refine o_eqI HE rfl rfl rfl ?_; clear HE; intro a HE
    refine o_pick_t HE rfl rfl hb12 rfl ?_; clear HE; intro a HE
    exact ⟨rfl, HE.cut ⟨by rw [hb12]; rfl, rfl, rfl, rfl, rfl, rfl, rfl, rfl, rfl, rfl, rfl, rfl, rfl, rfl, rfl, rfl, rfl, rfl, rfl, rfl, trivial⟩⟩
   ·skip
    have hk14 := hb12; try simp only [zz1, zz2, zz3, zz4, zz5, zz7, zz8, zz9, zza, zzb] at hk14
    refine g_off HE rfl rfl rfl hb12 ?_; clear HE; intro a HE
    refine g_off HE rfl rfl rfl hb12 ?_; clear HE; intro a HE
    refine g_off HE rfl rfl rfl hb12 ?_; clear HE; intro a HE
    refine o_pick_f HE rfl rfl hb12 rfl ?_; clear HE; intro a HE
    exact ⟨rfl, HE.cut ⟨by rw [hb12]; rfl, rfl, rfl, rfl, rfl, rfl, rfl, rfl, rfl, rfl, rfl, rfl, rfl, rfl, rfl, rfl, rfl, rfl, rfl, rfl, trivial⟩⟩
  clear HE; rintro a _ ⟨rfl, HE⟩
  refine hK _ _ ?_; clear hK K
  refine cond HE rfl (fun h16 => ?_) (fun h16 => ?_)
  ·have h16r := h16; try simp only [zz1, zz2, zz3, zz4, zz5, zz6, zz7, zz8, zz9, zza, zzb] at h16
   refine wp_seq_k (fun K hK => ?_); refine wp_region_lit ?_
   refine o_move HE rfl rfl ?_; clear HE; intro a HE
   have hi17 : (1 : Int).toNat < l.length := by omega
   obtain ⟨eb17, eo17, hA17, el17⟩ := Rd.at hR (List.getElem?_eq_getElem hi17); cases hA17
   obtain ⟨x17, ex17⟩ : ∃ x, l[(1 : Int).toNat] = x := ⟨_, rfl⟩; rw [ex17] at el17
   have el17 := kof_open (enc := fun l => str l) el17
   refine o_ixL HE rfl rfl rfl T.l29 ⟨by omega, by omega⟩ ?_; clear HE; intro a HE
   refine o_ldI HE rfl HS rfl T.s9 el17 (j := 0) rfl rfl ?_; clear HE; intro a HE
   have hxl17 : x17.length ≤ 4294967280 := by rw [← ex17]; exact hls _ (List.getElem_mem _)
   refine o_callP HE rfl HS rfl rfl T.g84 (c_count x17 16 _ _ HS.sub (by first | assumption | decide) (by first | omega | (simp; done) | (simp; omega))) ?_
   clear HE HS; rintro _ w a HS rfl HE
   refine o_move HE rfl rfl ?_; clear HE; intro a HE
   refine o_extract HE rfl rfl rfl ?_; clear HE; intro a HE
   refine o_extract HE rfl rfl rfl ?_; clear HE; intro a HE
   refine o_assign HE rfl rfl ?_; clear HE; intro a HE
   refine o_assign HE rfl rfl ?_; clear HE; intro a HE
   refine hK _ _ ?_; clear hK K
   refine wp_seq_k (fun K hK => ?_); refine wp_region_lit ?_
   refine o_move HE rfl rfl ?_; clear HE; intro a HE
   refine o_move HE rfl rfl ?_; clear HE; intro a HE
   refine cutL 3 (fun a' w' => w = w' ∧ Env a' 63 [] [(41, .bool (((wayS x7).2) && (decide ((erv (countS x17 16)) = 0)))), (0, .pointer (some ⟨bp, 0, none⟩)), (1, .slice (some ⟨eb7, eo7, none⟩) l.length c), (2, .pointer (some ⟨bd, 0, none⟩)), (5, .bool false), (6, .int .i64 ((wayS x7).1)), (7, .bool ((wayS x7).2)), (8, .pointer (some ⟨B8, 0, none⟩)), (9, .int .i64 (okv (countS x17 16))), (11, .slice (some ⟨eb7, eo7, none⟩) l.length c), (12, .int .i64 (l.length : Int)), (13, .bool (decide ((l.length : Int) = 0))), (14, .tuple #[.int .i64 ((wayS x7).1), .bool ((wayS x7).2)]), (15, .slice (some ⟨eb7, eo7, none⟩) l.length c), (16, .pointer (some ⟨eb7, eo7 + (0 : Int).toNat * 1, none⟩)), (17, str x7), (18, .tuple #[.int .i64 ((wayS x7).1), .bool ((wayS x7).2)]), (19, .int .i64 ((wayS x7).1)), (20, .bool ((wayS x7).2)), (21, .int .i64 ((wayS x7).1)), (22, .agg #[.int .i64 ((wayS x7).1), .int .i64 0]), (29, .bool ((decide (((wayS x7).1) = 2)) && (decide ((l.length : Int) = 2)))), (30, .tuple #[.int .i64 (okv (countS x17 16)), .int .i64 (erv (countS x17 16))]), (31, .slice (some ⟨eb7, eo7, none⟩) l.length c), (32, .pointer (some ⟨eb7, eo7 + (1 : Int).toNat * 1, none⟩)), (33, str x17), (34, .tuple #[.int .i64 (okv (countS x17 16)), .int .i64 (erv (countS x17 16))]), (35, .int .i64 (okv (countS x17 16))), (36, .int .i64 (erv (countS x17 16)))]) ?_ ?_
   ·refine (Bool.eq_false_or_eq_true ((wayS x7).2)).elim (fun hb19 => ?_) (fun hb19 => ?_)
    ·skip
     have hk20 := hb19; try simp only [zz1, zz2, zz3, zz4, zz5, zz7, zz8, zz9, zza, zzb] at hk20
     refine op_on HE rfl rfl hb19 ?_
     refine o_move HE rfl rfl ?_; clear HE; intro a HE
     refine op_on HE rfl rfl hb19 ?_
     refine o_eqI HE rfl rfl rfl ?_; clear HE; intro a HE
     refine o_pick_t HE rfl rfl hb19 rfl ?_; clear HE; intro a HE
     exact ⟨rfl, HE.cut ⟨by rw [hb19]; rfl, rfl, rfl, rfl, rfl, rfl, rfl, rfl, rfl, rfl, rfl, rfl, rfl, rfl, rfl, rfl, rfl, rfl, rfl, rfl, rfl, rfl, rfl, rfl, rfl, rfl, rfl, rfl, rfl, trivial⟩⟩
    ·skip
     have hk21 := hb19; try simp only [zz1, zz2, zz3, zz4, zz5, zz7, zz8, zz9, zza, zzb] at hk21
     refine g_off HE rfl rfl rfl hb19 ?_; clear HE; intro a HE
     refine g_off HE rfl rfl rfl hb19 ?_; clear HE; intro a HE
     refine o_pick_f HE rfl rfl hb19 rfl ?_; clear HE; intro a HE
     exact ⟨rfl, HE.cut ⟨by rw [hb19]; rfl, rfl, rfl, rfl, rfl, rfl, rfl, rfl, rfl, rfl, rfl, rfl, rfl, rfl, rfl, rfl, rfl, rfl, rfl, rfl, rfl, rfl, rfl, rfl, rfl, rfl, rfl, rfl, rfl, trivial⟩⟩
   clear HE; rintro a _ ⟨rfl, HE⟩
   refine o_assign HE rfl rfl ?_; clear HE; intro a HE
   refine hK _ _ ?_; clear hK K
   replace HS := HS.conv (L2 := [(0, _), (1, _)]) (.here .here) ⟨rfl, rfl, trivial⟩
   have HE0 := HE
   have hR23 := Rd.take hR (1 : Int).toNat
   replace HE := HE.cut (L' := [(0, .pointer (some ⟨bp, 0, none⟩)), (2, .pointer (some ⟨bd, 0, none⟩)), (5, .bool false), (6, .int .i64 ((wayS x7).1)), (7, .bool (((wayS x7).2) && (decide ((erv (countS x17 16)) = 0)))), (8, .pointer (some ⟨B8, 0, none⟩)), (9, .int .i64 (okv (countS x17 16))), (11, .slice (some ⟨eb7, eo7, none⟩) l.length c), (12, .int .i64 (l.length : Int)), (13, .bool (decide ((l.length : Int) = 0))), (14, .tuple #[.int .i64 ((wayS x7).1), .bool ((wayS x7).2)]), (15, .slice (some ⟨eb7, eo7, none⟩) l.length c), (16, .pointer (some ⟨eb7, eo7 + (0 : Int).toNat * 1, none⟩)), (17, str x7), (18, .tuple #[.int .i64 ((wayS x7).1), .bool ((wayS x7).2)]), (19, .int .i64 ((wayS x7).1)), (20, .bool ((wayS x7).2)), (21, .int .i64 ((wayS x7).1)), (22, .agg #[.int .i64 ((wayS x7).1), .int .i64 0]), (29, .bool ((decide (((wayS x7).1) = 2)) && (decide ((l.length : Int) = 2)))), (30, .tuple #[.int .i64 (okv (countS x17 16)), .int .i64 (erv (countS x17 16))]), (31, .slice (some ⟨eb7, eo7, none⟩) l.length c), (32, .pointer (some ⟨eb7, eo7 + (1 : Int).toNat * 1, none⟩)), (33, str x17), (34, .tuple #[.int .i64 (okv (countS x17 16)), .int .i64 (erv (countS x17 16))]), (35, .int .i64 (okv (countS x17 16))), (36, .int .i64 (erv (countS x17 16))), (41, .bool (((wayS x7).2) && (decide ((erv (countS x17 16)) = 0))))]) ⟨rfl, rfl, rfl, rfl, rfl, rfl, rfl, rfl, rfl, rfl, rfl, rfl, rfl, rfl, rfl, rfl, rfl, rfl, rfl, rfl, rfl, rfl, rfl, rfl, rfl, rfl, rfl, rfl, trivial⟩
   refine drawnF (fun f G' w => Heap.le G G' ∧ St w0 G [bp] G' w [[(B8, Cells 23 [(0, .int .i64 ((wayS x7).1)), (1, bif f 4 then .int .i64 (okv (countS x17 16)) else .int .i64 0)])], [(bp, Cells 26 [(0, .int .i64 P.r0.way), (1, .int .i64 P.r0.size), (2, .int .i64 P.r1.way), (3, .int .i64 P.r1.size), (4, .int .i64 P.r2.way), (5, .int .i64 P.r2.size), (6, .int .i64 P.r3.way), (7, .int .i64 P.r3.size), (8, .int .i64 P.r4.way), (9, .int .i64 P.r4.size), (10, .int .i64 P.time), (11, .int .i64 P.note), (12, .bool P.loose), (13, .bool P.force)])]]) [fun v _ => v = .int .i64 (okv (countS x17 16)), fun v _ => v = .slice (some ⟨eb7, eo7, none⟩) l.length c, fun v _ => v = .slice (some ⟨eb7, eo7, none⟩) (((l).take (1 : Int).toNat).length) c, fun v _ => v = .pointer (some ⟨B8, 1, none⟩), fun _ _ => True, fun v _ => v = .slice (some ⟨eb7, eo7, none⟩) (((l).take (1 : Int).toNat).length) c] [(1, .slice (some ⟨eb7, eo7, none⟩) l.length c, 5)] T.mix rfl HE ⟨Heap.le.refl _, HS.drew⟩ rfl (fun t v k h => by simp only [List.mem_cons, Prod.mk.injEq, List.not_mem_nil, or_false] at h; obtain ⟨rfl, rfl, rfl⟩ := h; exact ⟨HE0.get _ _ rfl, rfl⟩) (AllM.get ⟨fun _ _ _ _ h => h, fun _ _ _ _ h => h, fun _ _ _ _ h => h, fun _ _ _ _ h => h, fun _ _ _ _ h => h, fun _ _ _ _ h => h, trivial⟩) ⟨?_, ?_, ?_, ?_, ?_, ?_, trivial⟩ ?_
   ·intro a w G1 f hcl hfi hon hW HE hp hO; obtain ⟨hl, HS⟩ := hW
    refine o_move HE rfl rfl ?_; clear HE; intro a HE
    exact ⟨_, _, Heap.le.refl _, ⟨hl, HS⟩, fun d hd => (by cases hd; exact HE.get _ _ rfl), HE.defers, rfl⟩
   ·intro a w G1 f hcl hfi hon hW HE hp hO; obtain ⟨hl, HS⟩ := hW
    have hfk : f 5 = false := by
     cases hq : f 5 with
     | false => rfl
     | true =>
      have hq := hcl 5 _ rfl hq 2 rfl
      have hq := hcl 2 _ rfl hq 1 rfl
      rw [hfi] at hq; cases hq
    replace HE := HE.add (hO 1 (.slice (some ⟨eb7, eo7, none⟩) l.length c) 5 (by simp) hfk)
    refine o_move HE rfl rfl ?_; clear HE; intro a HE
    exact ⟨_, _, Heap.le.refl _, ⟨hl, HS⟩, fun d hd => (by cases hd; exact HE.get _ _ rfl), HE.defers, rfl⟩
   ·intro a w G1 f hcl hfi hon hW HE hp hO; obtain ⟨hl, HS⟩ := hW
    obtain ⟨_, e1, rfl⟩ := hp 1 43 _ (hon 1 rfl) rfl rfl; replace HE := HE.add e1
    refine o_sliceRHi (K := Knd.s) (k := (1 : Int)) HE rfl rfl rfl T.l29 hR rfl (by omega) (by omega) ?_; clear HE; intro a _ _ HE
    exact ⟨_, _, Heap.le.refl _, ⟨hl, HS⟩, fun d hd => (by cases hd; exact HE.get _ _ rfl), HE.defers, rfl⟩
   ·intro a w G1 f hcl hfi hon hW HE hp hO; obtain ⟨hl, HS⟩ := hW
    refine o_fld HE rfl rfl T.f23_1 ?_; clear HE; intro a HE
    exact ⟨_, _, Heap.le.refl _, ⟨hl, HS⟩, fun d hd => (by cases hd; exact HE.get _ _ rfl), HE.defers, rfl⟩
   ·intro a w G1 f hcl hfi hon hW HE hp hO; obtain ⟨hl, HS⟩ := hW
    obtain ⟨_, e3, rfl⟩ := hp 3 45 _ (hon 3 rfl) rfl rfl; replace HE := HE.add e3
    obtain ⟨_, e0, rfl⟩ := hp 0 42 _ (hon 0 rfl) rfl rfl; replace HE := HE.add e0
    refine o_st HE HS rfl rfl rfl T.s3 (.here .here) rfl ?_; clear HS; intro w HS
    replace HS := HS.conv (L2 := [(0, _), (1, _)]) (.here .here) ⟨rfl, rfl, trivial⟩
    exact ⟨.bool true, _, Heap.le.refl _, ⟨hl, HS⟩, fun d hd => (by cases hd), HE.defers, trivial⟩
   ·intro a w G1 f hcl hfi hon hW HE hp hO; obtain ⟨hl, HS⟩ := hW
    obtain ⟨_, e2, rfl⟩ := hp 2 44 _ (hon 2 rfl) rfl rfl; replace HE := HE.add e2
    refine o_assign HE rfl rfl ?_; clear HE; intro a HE
    exact ⟨_, _, Heap.le.refl _, ⟨hl, HS⟩, fun d hd => (by cases hd; exact HE.get _ _ rfl), HE.defers, rfl⟩
   clear HE HS; intro a w G24 f hle25 hall HW HE hp; obtain ⟨_, HS⟩ := HW
   have hfw4 := hall 4 (by decide)
   simp only [hfw4, cond_true] at HS
   replace hR := hR.le hle25
   replace hCd := hCd.le hle25
   replace hgw := hgw.le hle25
   replace hR23 := hR23.le hle25
   obtain ⟨_, e5, rfl⟩ := hp 5 1 _ rfl rfl; replace HE := HE.add e5
   clear hp hall
   refine hK10 _ _ ?_; clear hK10
   refine wp_seq_k (fun K27 hK26 => ?_)
   replace HE := HE.cut (L' := [(0, .pointer (some ⟨bp, 0, none⟩)), (1, .slice (some ⟨eb7, eo7, none⟩) (((l).take (1 : Int).toNat).length) c), (2, .pointer (some ⟨bd, 0, none⟩)), (5, .bool false), (6, .int .i64 ((wayS x7).1)), (7, .bool (((wayS x7).2) && (decide ((erv (countS x17 16)) = 0)))), (8, .pointer (some ⟨B8, 0, none⟩)), (9, .int .i64 (okv (countS x17 16))), (11, .slice (some ⟨eb7, eo7, none⟩) l.length c), (12, .int .i64 (l.length : Int)), (13, .bool (decide ((l.length : Int) = 0))), (14, .tuple #[.int .i64 ((wayS x7).1), .bool ((wayS x7).2)]), (15, .slice (some ⟨eb7, eo7, none⟩) l.length c), (16, .pointer (some ⟨eb7, eo7 + (0 : Int).toNat * 1, none⟩)), (17, str x7), (18, .tuple #[.int .i64 ((wayS x7).1), .bool ((wayS x7).2)]), (19, .int .i64 ((wayS x7).1)), (20, .bool ((wayS x7).2)), (21, .int .i64 ((wayS x7).1)), (22, .agg #[.int .i64 ((wayS x7).1), .int .i64 0]), (29, .bool ((decide (((wayS x7).1) = 2)) && (decide ((l.length : Int) = 2)))), (30, .tuple #[.int .i64 (okv (countS x17 16)), .int .i64 (erv (countS x17 16))]), (31, .slice (some ⟨eb7, eo7, none⟩) l.length c), (32, .pointer (some ⟨eb7, eo7 + (1 : Int).toNat * 1, none⟩)), (33, str x17), (34, .tuple #[.int .i64 (okv (countS x17 16)), .int .i64 (erv (countS x17 16))]), (35, .int .i64 (okv (countS x17 16))), (36, .int .i64 (erv (countS x17 16))), (41, .bool (((wayS x7).2) && (decide ((erv (countS x17 16)) = 0))))]) ⟨rfl, rfl, rfl, rfl, rfl, rfl, rfl, rfl, rfl, rfl, rfl, rfl, rfl, rfl, rfl, rfl, rfl, rfl, rfl, rfl, rfl, rfl, rfl, rfl, rfl, rfl, rfl, rfl, rfl, trivial⟩
   refine drawnF (fun f G' w => Heap.le G24 G' ∧ St w0 G [bp] G' w [[(B8, Cells 23 [(0, .int .i64 ((wayS x7).1)), (1, .int .i64 (okv (countS x17 16)))])], [(bp, Cells 26 [(0, .int .i64 P.r0.way), (1, .int .i64 P.r0.size), (2, .int .i64 P.r1.way), (3, .int .i64 P.r1.size), (4, .int .i64 P.r2.way), (5, .int .i64 P.r2.size), (6, bif f 6 then .int .i64 ((wayS x7).1) else .int .i64 P.r3.way), (7, bif f 6 then .int .i64 (okv (countS x17 16)) else .int .i64 P.r3.size), (8, .int .i64 P.r4.way), (9, .int .i64 P.r4.size), (10, .int .i64 P.time), (11, .int .i64 P.note), (12, .bool P.loose), (13, .bool P.force)])]]) [fun v _ => v = .pointer (some ⟨bp, 0, none⟩), fun v _ => v = .int .i64 3, fun v _ => v = .agg #[.int .i64 ((wayS x7).1), .int .i64 (okv (countS x17 16))], fun v _ => v = .pointer (some ⟨bp, 0, none⟩), fun v _ => v = .pointer (some ⟨bp, 0, none⟩), fun v _ => v = .pointer (some ⟨bp, 6, none⟩), fun _ _ => True] [] T.mix rfl HE ⟨Heap.le.refl _, HS.drew⟩ rfl (by simp) (AllM.get ⟨fun _ _ _ _ h => h, fun _ _ _ _ h => h, fun _ _ _ _ h => h, fun _ _ _ _ h => h, fun _ _ _ _ h => h, fun _ _ _ _ h => h, fun _ _ _ _ h => h, trivial⟩) ⟨?_, ?_, ?_, ?_, ?_, ?_, ?_, trivial⟩ ?_
   ·intro a w G1 f hcl hfi hon hW HE hp hO; obtain ⟨hl, HS⟩ := hW
    refine o_move HE rfl rfl ?_; clear HE; intro a HE
    exact ⟨_, _, Heap.le.refl _, ⟨hl, HS⟩, fun d hd => (by cases hd; exact HE.get _ _ rfl), HE.defers, rfl⟩
   ·intro a w G1 f hcl hfi hon hW HE hp hO; obtain ⟨hl, HS⟩ := hW
    refine o_ldI HE rfl HS rfl T.s3 (hCd.le hl) (j := 0) rfl rfl ?_; clear HE; intro a HE
    exact ⟨_, _, Heap.le.refl _, ⟨hl, HS⟩, fun d hd => (by cases hd; exact HE.get _ _ rfl), HE.defers, rfl⟩
   ·intro a w G1 f hcl hfi hon hW HE hp hO; obtain ⟨hl, HS⟩ := hW
    refine o_ldA HE rfl HS rfl T.a23 (.here .here) rfl ?_; clear HE; intro a HE
    exact ⟨_, _, Heap.le.refl _, ⟨hl, HS⟩, fun d hd => (by cases hd; exact HE.get _ _ rfl), HE.defers, rfl⟩
   ·intro a w G1 f hcl hfi hon hW HE hp hO; obtain ⟨hl, HS⟩ := hW
    obtain ⟨_, e0, rfl⟩ := hp 0 46 _ (hon 0 rfl) rfl rfl; replace HE := HE.add e0
    refine o_nil HE rfl rfl ?_; clear HE; intro a HE
    exact ⟨_, _, Heap.le.refl _, ⟨hl, HS⟩, fun d hd => (by cases hd; exact HE.get _ _ rfl), HE.defers, rfl⟩
   ·intro a w G1 f hcl hfi hon hW HE hp hO; obtain ⟨hl, HS⟩ := hW
    obtain ⟨_, e3, rfl⟩ := hp 3 49 _ (hon 3 rfl) rfl rfl; replace HE := HE.add e3
    refine o_fld HE rfl rfl T.f26_0 ?_; clear HE; intro a HE
    exact ⟨_, _, Heap.le.refl _, ⟨hl, HS⟩, fun d hd => (by cases hd; exact HE.get _ _ rfl), HE.defers, rfl⟩
   ·intro a w G1 f hcl hfi hon hW HE hp hO; obtain ⟨hl, HS⟩ := hW
    obtain ⟨_, e4, rfl⟩ := hp 4 50 _ (hon 4 rfl) rfl rfl; replace HE := HE.add e4
    obtain ⟨_, e1, rfl⟩ := hp 1 47 _ (hon 1 rfl) rfl rfl; replace HE := HE.add e1
    refine o_ixA HE rfl rfl rfl T.r24 (by decide) ?_; clear HE; intro a HE
    exact ⟨_, _, Heap.le.refl _, ⟨hl, HS⟩, fun d hd => (by cases hd; exact HE.get _ _ rfl), HE.defers, rfl⟩
   ·intro a w G1 f hcl hfi hon hW HE hp hO; obtain ⟨hl, HS⟩ := hW
    obtain ⟨_, e5, rfl⟩ := hp 5 51 _ (hon 5 rfl) rfl rfl; replace HE := HE.add e5
    obtain ⟨_, e2, rfl⟩ := hp 2 48 _ (hon 2 rfl) rfl rfl; replace HE := HE.add e2
    refine o_stA HE HS rfl rfl rfl T.a23 (.there (.here .here)) rfl ?_; clear HS; intro w HS
    replace HS := HS.conv (L2 := [(0, _), (1, _), (2, _), (3, _), (4, _), (5, _), (6, _), (7, _), (8, _), (9, _), (10, _), (11, _), (12, _), (13, _)]) (.there (.here .here)) ⟨rfl, rfl, rfl, rfl, rfl, rfl, rfl, rfl, rfl, rfl, rfl, rfl, rfl, rfl, trivial⟩
    exact ⟨.bool true, _, Heap.le.refl _, ⟨hl, HS⟩, fun d hd => (by cases hd), HE.defers, trivial⟩
   clear HE HS; intro a w G28 f hle29 hall HW HE hp; obtain ⟨_, HS⟩ := HW
   have hfw6 := hall 6 (by decide)
   simp only [hfw6, cond_true] at HS
   replace hR := hR.le hle29
   replace hCd := hCd.le hle29
   replace hgw := hgw.le hle29
   replace hR23 := hR23.le hle29
   clear hp hall
   refine hK26 _ _ ?_; clear hK26
   refine wp_seq_k (fun K hK => ?_); refine wp_region_lit ?_
   refine o_move HE rfl rfl ?_; clear HE; intro a HE
   refine o_move HE rfl rfl ?_; clear HE; intro a HE
   refine cutL 4 (fun a' w' => w = w' ∧ Env a' 63 [] [(57, .bool ((((wayS x7).2) && (decide ((erv (countS x17 16)) = 0))) && (decide ((((l).take (1 : Int).toNat).length : Int) = 1)))), (0, .pointer (some ⟨bp, 0, none⟩)), (1, .slice (some ⟨eb7, eo7, none⟩) (((l).take (1 : Int).toNat).length) c), (2, .pointer (some ⟨bd, 0, none⟩)), (5, .bool false), (6, .int .i64 ((wayS x7).1)), (7, .bool (((wayS x7).2) && (decide ((erv (countS x17 16)) = 0)))), (8, .pointer (some ⟨B8, 0, none⟩)), (9, .int .i64 (okv (countS x17 16))), (11, .slice (some ⟨eb7, eo7, none⟩) l.length c), (12, .int .i64 (l.length : Int)), (13, .bool (decide ((l.length : Int) = 0))), (14, .tuple #[.int .i64 ((wayS x7).1), .bool ((wayS x7).2)]), (15, .slice (some ⟨eb7, eo7, none⟩) l.length c), (16, .pointer (some ⟨eb7, eo7 + (0 : Int).toNat * 1, none⟩)), (17, str x7), (18, .tuple #[.int .i64 ((wayS x7).1), .bool ((wayS x7).2)]), (19, .int .i64 ((wayS x7).1)), (20, .bool ((wayS x7).2)), (21, .int .i64 ((wayS x7).1)), (22, .agg #[.int .i64 ((wayS x7).1), .int .i64 0]), (29, .bool ((decide (((wayS x7).1) = 2)) && (decide ((l.length : Int) = 2)))), (30, .tuple #[.int .i64 (okv (countS x17 16)), .int .i64 (erv (countS x17 16))]), (31, .slice (some ⟨eb7, eo7, none⟩) l.length c), (32, .pointer (some ⟨eb7, eo7 + (1 : Int).toNat * 1, none⟩)), (33, str x17), (34, .tuple #[.int .i64 (okv (countS x17 16)), .int .i64 (erv (countS x17 16))]), (35, .int .i64 (okv (countS x17 16))), (36, .int .i64 (erv (countS x17 16))), (41, .bool (((wayS x7).2) && (decide ((erv (countS x17 16)) = 0))))]) ?_ ?_
   ·refine (Bool.eq_false_or_eq_true (((wayS x7).2) && (decide ((erv (countS x17 16)) = 0)))).elim (fun hb30 => ?_) (fun hb30 => ?_)
    ·skip
     have hk31 := hb30; try simp only [zz1, zz2, zz3, zz4, zz5, zz7, zz8, zz9, zza, zzb] at hk31
     refine op_on HE rfl rfl hb30 ?_
     refine o_move HE rfl rfl ?_; clear HE; intro a HE
     refine op_on HE rfl rfl hb30 ?_
     refine o_lenL HE rfl rfl Tryd.underlying29 ?_; clear HE; intro a HE
     refine op_on HE rfl rfl hb30 ?_
     refine o_eqI HE rfl rfl rfl ?_; clear HE; intro a HE
     refine o_pick_t HE rfl rfl hb30 rfl ?_; clear HE; intro a HE
     exact ⟨rfl, HE.cut ⟨by rw [hb30]; rfl, rfl, rfl, rfl, rfl, rfl, rfl, rfl, rfl, rfl, rfl, rfl, rfl, rfl, rfl, rfl, rfl, rfl, rfl, rfl, rfl, rfl, rfl, rfl, rfl, rfl, rfl, rfl, rfl, rfl, trivial⟩⟩
    ·skip
     have hk32 := hb30; try simp only [zz1, zz2, zz3, zz4, zz5, zz7, zz8, zz9, zza, zzb] at hk32
     refine g_off HE rfl rfl rfl hb30 ?_; clear HE; intro a HE
     refine g_off HE rfl rfl rfl hb30 ?_; clear HE; intro a HE
     refine g_off HE rfl rfl rfl hb30 ?_; clear HE; intro a HE
     refine o_pick_f HE rfl rfl hb30 rfl ?_; clear HE; intro a HE
     exact ⟨rfl, HE.cut ⟨by rw [hb30]; rfl, rfl, rfl, rfl, rfl, rfl, rfl, rfl, rfl, rfl, rfl, rfl, rfl, rfl, rfl, rfl, rfl, rfl, rfl, rfl, rfl, rfl, rfl, rfl, rfl, rfl, rfl, rfl, rfl, rfl, trivial⟩⟩
   clear HE; rintro a _ ⟨rfl, HE⟩
   refine o_move HE rfl rfl ?_; clear HE; intro a HE
   obtain ⟨M0, hM0, HS⟩ : ∃ M0, M0 = _ ∧ St w0 G [bp] G28 _ M0 := ⟨_, rfl, HS⟩
   refine cutL 4 (fun a' w' => St w0 G [bp] G28 w' M0 ∧ Env a' 63 [] [(62, .bool (((((wayS x7).2) && (decide ((erv (countS x17 16)) = 0))) && (decide ((((l).take (1 : Int).toNat).length : Int) = 1))) && (ruledB 3 ⟨(wayS x7).1, okv (countS x17 16)⟩))), (0, .pointer (some ⟨bp, 0, none⟩)), (1, .slice (some ⟨eb7, eo7, none⟩) (((l).take (1 : Int).toNat).length) c), (2, .pointer (some ⟨bd, 0, none⟩)), (5, .bool false), (6, .int .i64 ((wayS x7).1)), (7, .bool (((wayS x7).2) && (decide ((erv (countS x17 16)) = 0)))), (8, .pointer (some ⟨B8, 0, none⟩)), (9, .int .i64 (okv (countS x17 16))), (11, .slice (some ⟨eb7, eo7, none⟩) l.length c), (12, .int .i64 (l.length : Int)), (13, .bool (decide ((l.length : Int) = 0))), (14, .tuple #[.int .i64 ((wayS x7).1), .bool ((wayS x7).2)]), (15, .slice (some ⟨eb7, eo7, none⟩) l.length c), (16, .pointer (some ⟨eb7, eo7 + (0 : Int).toNat * 1, none⟩)), (17, str x7), (18, .tuple #[.int .i64 ((wayS x7).1), .bool ((wayS x7).2)]), (19, .int .i64 ((wayS x7).1)), (20, .bool ((wayS x7).2)), (21, .int .i64 ((wayS x7).1)), (22, .agg #[.int .i64 ((wayS x7).1), .int .i64 0]), (29, .bool ((decide (((wayS x7).1) = 2)) && (decide ((l.length : Int) = 2)))), (30, .tuple #[.int .i64 (okv (countS x17 16)), .int .i64 (erv (countS x17 16))]), (31, .slice (some ⟨eb7, eo7, none⟩) l.length c), (32, .pointer (some ⟨eb7, eo7 + (1 : Int).toNat * 1, none⟩)), (33, str x17), (34, .tuple #[.int .i64 (okv (countS x17 16)), .int .i64 (erv (countS x17 16))]), (35, .int .i64 (okv (countS x17 16))), (36, .int .i64 (erv (countS x17 16))), (41, .bool (((wayS x7).2) && (decide ((erv (countS x17 16)) = 0))))]) ?_ ?_
   ·refine (Bool.eq_false_or_eq_true ((((wayS x7).2) && (decide ((erv (countS x17 16)) = 0))) && (decide ((((l).take (1 : Int).toNat).length : Int) = 1)))).elim (fun hb33 => ?_) (fun hb33 => ?_)
    ·subst hM0
     have hk34 := hb33; try simp only [zz1, zz2, zz3, zz4, zz5, zz7, zz8, zz9, zza, zzb] at hk34
     refine op_on HE rfl rfl hb33 ?_
     refine o_ldI HE rfl HS rfl T.s3 hCd (j := 0) rfl rfl ?_; clear HE; intro a HE
     refine op_on HE rfl rfl hb33 ?_
     refine o_ldA HE rfl HS rfl T.a23 (.here .here) rfl ?_; clear HE; intro a HE
     refine op_on HE rfl rfl hb33 ?_
     refine o_callP HE rfl HS rfl rfl T.g41 (c_ruled 3 (⟨(wayS x7).1, okv (countS x17 16)⟩ : Rul) _ _ HS.sub) ?_
     clear HE HS; rintro _ w a HS rfl HE
     refine o_pick_t HE rfl rfl hb33 rfl ?_; clear HE; intro a HE
     exact ⟨HS, HE.cut ⟨by rw [hb33]; rfl, rfl, rfl, rfl, rfl, rfl, rfl, rfl, rfl, rfl, rfl, rfl, rfl, rfl, rfl, rfl, rfl, rfl, rfl, rfl, rfl, rfl, rfl, rfl, rfl, rfl, rfl, rfl, rfl, rfl, trivial⟩⟩
    ·subst hM0
     have hk35 := hb33; try simp only [zz1, zz2, zz3, zz4, zz5, zz7, zz8, zz9, zza, zzb] at hk35
     refine g_off HE rfl rfl rfl hb33 ?_; clear HE; intro a HE
     refine g_off HE rfl rfl rfl hb33 ?_; clear HE; intro a HE
     refine g_off HE rfl rfl rfl hb33 ?_; clear HE; intro a HE
     refine o_pick_f HE rfl rfl hb33 rfl ?_; clear HE; intro a HE
     exact ⟨HS, HE.cut ⟨by rw [hb33]; rfl, rfl, rfl, rfl, rfl, rfl, rfl, rfl, rfl, rfl, rfl, rfl, rfl, rfl, rfl, rfl, rfl, rfl, rfl, rfl, rfl, rfl, rfl, rfl, rfl, rfl, rfl, rfl, rfl, rfl, trivial⟩⟩
   clear HE HS; rintro a w ⟨HS, HE⟩; subst hM0
   refine o_assign HE rfl rfl ?_; clear HE; intro a HE
   refine hK _ _ ?_; clear hK K
   refine wp_ret ?_
   show Q .ret _ _
   refine ret hQ HE rfl (HE.res rfl .nil) ?_
   replace HS := HS.drop (M' := [_]) (sub_drop (sub_keep sub_nil))
   have e0 : w0S l = wayS x7 := by unfold w0S; rw [get0 ex7]
   have e1 := get1 ex17
   have he : ruleS 3 P l = ((⟨⟨P.r0.way, P.r0.size⟩, ⟨P.r1.way, P.r1.size⟩, ⟨P.r2.way, P.r2.size⟩, ⟨(wayS x7).1, okv (countS x17 16)⟩, ⟨P.r4.way, P.r4.size⟩, P.time, P.note, P.loose, P.force⟩ : Pol), ((((wayS x7).2) && (decide ((erv (countS x17 16)) = 0))) && (decide ((((l).take (1 : Int).toNat).length : Int) = 1))) && (ruledB 3 ⟨(wayS x7).1, okv (countS x17 16)⟩)) := by
    unfold ruleS
    rw [if_neg (by omega), if_pos (by rw [e0]; omega), e0, e1]
    rw [show decide (((l.take (1 : Int).toNat).length : Int) = 1) = true from decide_eq_true (by rw [List.length_take]; omega), Bool.and_true]
    rfl
   exact ⟨_, [(bp, Cells 26 [(0, .int .i64 P.r0.way), (1, .int .i64 P.r0.size), (2, .int .i64 P.r1.way), (3, .int .i64 P.r1.size), (4, .int .i64 P.r2.way), (5, .int .i64 P.r2.size), (6, .int .i64 ((wayS x7).1)), (7, .int .i64 (okv (countS x17 16))), (8, .int .i64 P.r4.way), (9, .int .i64 P.r4.size), (10, .int .i64 P.time), (11, .int .i64 P.note), (12, .bool P.loose), (13, .bool P.force)])], HS.stop (by simp), by rw [he] <;> rfl, by rw [he] <;> rfl⟩
  ·have h16r := h16; try simp only [zz1, zz2, zz3, zz4, zz5, zz6, zz7, zz8, zz9, zza, zzb] at h16
   refine wp_skip ?_
   refine hK10 _ _ ?_; clear hK10
   refine wp_seq_k (fun K38 hK37 => ?_)
   replace HS := HS.conv (L2 := [(0, _), (1, _)]) (.here .here) ⟨rfl, rfl, trivial⟩
   replace HE := HE.cut (L' := [(0, .pointer (some ⟨bp, 0, none⟩)), (1, .slice (some ⟨eb7, eo7, none⟩) l.length c), (2, .pointer (some ⟨bd, 0, none⟩)), (5, .bool false), (6, .int .i64 ((wayS x7).1)), (7, .bool ((wayS x7).2)), (8, .pointer (some ⟨B8, 0, none⟩)), (11, .slice (some ⟨eb7, eo7, none⟩) l.length c), (12, .int .i64 (l.length : Int)), (13, .bool (decide ((l.length : Int) = 0))), (14, .tuple #[.int .i64 ((wayS x7).1), .bool ((wayS x7).2)]), (15, .slice (some ⟨eb7, eo7, none⟩) l.length c), (16, .pointer (some ⟨eb7, eo7 + (0 : Int).toNat * 1, none⟩)), (17, str x7), (18, .tuple #[.int .i64 ((wayS x7).1), .bool ((wayS x7).2)]), (19, .int .i64 ((wayS x7).1)), (20, .bool ((wayS x7).2)), (21, .int .i64 ((wayS x7).1)), (22, .agg #[.int .i64 ((wayS x7).1), .int .i64 0]), (29, .bool ((decide (((wayS x7).1) = 2)) && (decide ((l.length : Int) = 2))))]) ⟨rfl, rfl, rfl, rfl, rfl, rfl, rfl, rfl, rfl, rfl, rfl, rfl, rfl, rfl, rfl, rfl, rfl, rfl, rfl, rfl, trivial⟩
   refine drawnF (fun f G' w => Heap.le G G' ∧ St w0 G [bp] G' w [[(B8, Cells 23 [(0, .int .i64 ((wayS x7).1)), (1, .int .i64 0)])], [(bp, Cells 26 [(0, .int .i64 P.r0.way), (1, .int .i64 P.r0.size), (2, .int .i64 P.r1.way), (3, .int .i64 P.r1.size), (4, .int .i64 P.r2.way), (5, .int .i64 P.r2.size), (6, bif f 6 then .int .i64 ((wayS x7).1) else .int .i64 P.r3.way), (7, bif f 6 then .int .i64 0 else .int .i64 P.r3.size), (8, .int .i64 P.r4.way), (9, .int .i64 P.r4.size), (10, .int .i64 P.time), (11, .int .i64 P.note), (12, .bool P.loose), (13, .bool P.force)])]]) [fun v _ => v = .pointer (some ⟨bp, 0, none⟩), fun v _ => v = .int .i64 3, fun v _ => v = .agg #[.int .i64 ((wayS x7).1), .int .i64 0], fun v _ => v = .pointer (some ⟨bp, 0, none⟩), fun v _ => v = .pointer (some ⟨bp, 0, none⟩), fun v _ => v = .pointer (some ⟨bp, 6, none⟩), fun _ _ => True] [] T.mix rfl HE ⟨Heap.le.refl _, HS.drew⟩ rfl (by simp) (AllM.get ⟨fun _ _ _ _ h => h, fun _ _ _ _ h => h, fun _ _ _ _ h => h, fun _ _ _ _ h => h, fun _ _ _ _ h => h, fun _ _ _ _ h => h, fun _ _ _ _ h => h, trivial⟩) ⟨?_, ?_, ?_, ?_, ?_, ?_, ?_, trivial⟩ ?_
   ·intro a w G1 f hcl hfi hon hW HE hp hO; obtain ⟨hl, HS⟩ := hW
    refine o_move HE rfl rfl ?_; clear HE; intro a HE
    exact ⟨_, _, Heap.le.refl _, ⟨hl, HS⟩, fun d hd => (by cases hd; exact HE.get _ _ rfl), HE.defers, rfl⟩
   ·intro a w G1 f hcl hfi hon hW HE hp hO; obtain ⟨hl, HS⟩ := hW
    refine o_ldI HE rfl HS rfl T.s3 (hCd.le hl) (j := 0) rfl rfl ?_; clear HE; intro a HE
    exact ⟨_, _, Heap.le.refl _, ⟨hl, HS⟩, fun d hd => (by cases hd; exact HE.get _ _ rfl), HE.defers, rfl⟩
   ·intro a w G1 f hcl hfi hon hW HE hp hO; obtain ⟨hl, HS⟩ := hW
    refine o_ldA HE rfl HS rfl T.a23 (.here .here) rfl ?_; clear HE; intro a HE
    exact ⟨_, _, Heap.le.refl _, ⟨hl, HS⟩, fun d hd => (by cases hd; exact HE.get _ _ rfl), HE.defers, rfl⟩
   ·intro a w G1 f hcl hfi hon hW HE hp hO; obtain ⟨hl, HS⟩ := hW
    obtain ⟨_, e0, rfl⟩ := hp 0 46 _ (hon 0 rfl) rfl rfl; replace HE := HE.add e0
    refine o_nil HE rfl rfl ?_; clear HE; intro a HE
    exact ⟨_, _, Heap.le.refl _, ⟨hl, HS⟩, fun d hd => (by cases hd; exact HE.get _ _ rfl), HE.defers, rfl⟩
   ·intro a w G1 f hcl hfi hon hW HE hp hO; obtain ⟨hl, HS⟩ := hW
    obtain ⟨_, e3, rfl⟩ := hp 3 49 _ (hon 3 rfl) rfl rfl; replace HE := HE.add e3
    refine o_fld HE rfl rfl T.f26_0 ?_; clear HE; intro a HE
    exact ⟨_, _, Heap.le.refl _, ⟨hl, HS⟩, fun d hd => (by cases hd; exact HE.get _ _ rfl), HE.defers, rfl⟩
   ·intro a w G1 f hcl hfi hon hW HE hp hO; obtain ⟨hl, HS⟩ := hW
    obtain ⟨_, e4, rfl⟩ := hp 4 50 _ (hon 4 rfl) rfl rfl; replace HE := HE.add e4
    obtain ⟨_, e1, rfl⟩ := hp 1 47 _ (hon 1 rfl) rfl rfl; replace HE := HE.add e1
    refine o_ixA HE rfl rfl rfl T.r24 (by decide) ?_; clear HE; intro a HE
    exact ⟨_, _, Heap.le.refl _, ⟨hl, HS⟩, fun d hd => (by cases hd; exact HE.get _ _ rfl), HE.defers, rfl⟩
   ·intro a w G1 f hcl hfi hon hW HE hp hO; obtain ⟨hl, HS⟩ := hW
    obtain ⟨_, e5, rfl⟩ := hp 5 51 _ (hon 5 rfl) rfl rfl; replace HE := HE.add e5
    obtain ⟨_, e2, rfl⟩ := hp 2 48 _ (hon 2 rfl) rfl rfl; replace HE := HE.add e2
    refine o_stA HE HS rfl rfl rfl T.a23 (.there (.here .here)) rfl ?_; clear HS; intro w HS
    replace HS := HS.conv (L2 := [(0, _), (1, _), (2, _), (3, _), (4, _), (5, _), (6, _), (7, _), (8, _), (9, _), (10, _), (11, _), (12, _), (13, _)]) (.there (.here .here)) ⟨rfl, rfl, rfl, rfl, rfl, rfl, rfl, rfl, rfl, rfl, rfl, rfl, rfl, rfl, trivial⟩
    exact ⟨.bool true, _, Heap.le.refl _, ⟨hl, HS⟩, fun d hd => (by cases hd), HE.defers, trivial⟩
   clear HE HS; intro a w G39 f hle40 hall HW HE hp; obtain ⟨_, HS⟩ := HW
   have hfw6 := hall 6 (by decide)
   simp only [hfw6, cond_true] at HS
   replace hR := hR.le hle40
   replace hCd := hCd.le hle40
   replace hgw := hgw.le hle40
   clear hp hall
   refine hK37 _ _ ?_; clear hK37
   refine wp_seq_k (fun K hK => ?_); refine wp_region_lit ?_
   refine o_move HE rfl rfl ?_; clear HE; intro a HE
   refine o_move HE rfl rfl ?_; clear HE; intro a HE
   refine cutL 4 (fun a' w' => w = w' ∧ Env a' 63 [] [(57, .bool (((wayS x7).2) && (decide ((l.length : Int) = 1)))), (0, .pointer (some ⟨bp, 0, none⟩)), (1, .slice (some ⟨eb7, eo7, none⟩) l.length c), (2, .pointer (some ⟨bd, 0, none⟩)), (5, .bool false), (6, .int .i64 ((wayS x7).1)), (7, .bool ((wayS x7).2)), (8, .pointer (some ⟨B8, 0, none⟩)), (11, .slice (some ⟨eb7, eo7, none⟩) l.length c), (12, .int .i64 (l.length : Int)), (13, .bool (decide ((l.length : Int) = 0))), (14, .tuple #[.int .i64 ((wayS x7).1), .bool ((wayS x7).2)]), (15, .slice (some ⟨eb7, eo7, none⟩) l.length c), (16, .pointer (some ⟨eb7, eo7 + (0 : Int).toNat * 1, none⟩)), (17, str x7), (18, .tuple #[.int .i64 ((wayS x7).1), .bool ((wayS x7).2)]), (19, .int .i64 ((wayS x7).1)), (20, .bool ((wayS x7).2)), (21, .int .i64 ((wayS x7).1)), (22, .agg #[.int .i64 ((wayS x7).1), .int .i64 0]), (29, .bool ((decide (((wayS x7).1) = 2)) && (decide ((l.length : Int) = 2))))]) ?_ ?_
   ·refine (Bool.eq_false_or_eq_true ((wayS x7).2)).elim (fun hb41 => ?_) (fun hb41 => ?_)
    ·skip
     have hk42 := hb41; try simp only [zz1, zz2, zz3, zz4, zz5, zz7, zz8, zz9, zza, zzb] at hk42
     refine op_on HE rfl rfl hb41 ?_
     refine o_move HE rfl rfl ?_; clear HE; intro a HE
     refine op_on HE rfl rfl hb41 ?_
     refine o_lenL HE rfl rfl Tryd.underlying29 ?_; clear HE; intro a HE
     refine op_on HE rfl rfl hb41 ?_
     refine o_eqI HE rfl rfl rfl ?_; clear HE; intro a HE
     refine o_pick_t HE rfl rfl hb41 rfl ?_; clear HE; intro a HE
     exact ⟨rfl, HE.cut ⟨by rw [hb41]; rfl, rfl, rfl, rfl, rfl, rfl, rfl, rfl, rfl, rfl, rfl, rfl, rfl, rfl, rfl, rfl, rfl, rfl, rfl, rfl, rfl, trivial⟩⟩
    ·skip
     have hk43 := hb41; try simp only [zz1, zz2, zz3, zz4, zz5, zz7, zz8, zz9, zza, zzb] at hk43
     refine g_off HE rfl rfl rfl hb41 ?_; clear HE; intro a HE
     refine g_off HE rfl rfl rfl hb41 ?_; clear HE; intro a HE
     refine g_off HE rfl rfl rfl hb41 ?_; clear HE; intro a HE
     refine o_pick_f HE rfl rfl hb41 rfl ?_; clear HE; intro a HE
     exact ⟨rfl, HE.cut ⟨by rw [hb41]; rfl, rfl, rfl, rfl, rfl, rfl, rfl, rfl, rfl, rfl, rfl, rfl, rfl, rfl, rfl, rfl, rfl, rfl, rfl, rfl, rfl, trivial⟩⟩
   clear HE; rintro a _ ⟨rfl, HE⟩
   refine o_move HE rfl rfl ?_; clear HE; intro a HE
   obtain ⟨M0, hM0, HS⟩ : ∃ M0, M0 = _ ∧ St w0 G [bp] G39 _ M0 := ⟨_, rfl, HS⟩
   refine cutL 4 (fun a' w' => St w0 G [bp] G39 w' M0 ∧ Env a' 63 [] [(62, .bool ((((wayS x7).2) && (decide ((l.length : Int) = 1))) && (ruledB 3 ⟨(wayS x7).1, 0⟩))), (0, .pointer (some ⟨bp, 0, none⟩)), (1, .slice (some ⟨eb7, eo7, none⟩) l.length c), (2, .pointer (some ⟨bd, 0, none⟩)), (5, .bool false), (6, .int .i64 ((wayS x7).1)), (7, .bool ((wayS x7).2)), (8, .pointer (some ⟨B8, 0, none⟩)), (11, .slice (some ⟨eb7, eo7, none⟩) l.length c), (12, .int .i64 (l.length : Int)), (13, .bool (decide ((l.length : Int) = 0))), (14, .tuple #[.int .i64 ((wayS x7).1), .bool ((wayS x7).2)]), (15, .slice (some ⟨eb7, eo7, none⟩) l.length c), (16, .pointer (some ⟨eb7, eo7 + (0 : Int).toNat * 1, none⟩)), (17, str x7), (18, .tuple #[.int .i64 ((wayS x7).1), .bool ((wayS x7).2)]), (19, .int .i64 ((wayS x7).1)), (20, .bool ((wayS x7).2)), (21, .int .i64 ((wayS x7).1)), (22, .agg #[.int .i64 ((wayS x7).1), .int .i64 0]), (29, .bool ((decide (((wayS x7).1) = 2)) && (decide ((l.length : Int) = 2))))]) ?_ ?_
   ·refine (Bool.eq_false_or_eq_true (((wayS x7).2) && (decide ((l.length : Int) = 1)))).elim (fun hb44 => ?_) (fun hb44 => ?_)
    ·subst hM0
     have hk45 := hb44; try simp only [zz1, zz2, zz3, zz4, zz5, zz7, zz8, zz9, zza, zzb] at hk45
     refine op_on HE rfl rfl hb44 ?_
     refine o_ldI HE rfl HS rfl T.s3 hCd (j := 0) rfl rfl ?_; clear HE; intro a HE
     refine op_on HE rfl rfl hb44 ?_
     refine o_ldA HE rfl HS rfl T.a23 (.here .here) rfl ?_; clear HE; intro a HE
     refine op_on HE rfl rfl hb44 ?_
     refine o_callP HE rfl HS rfl rfl T.g41 (c_ruled 3 (⟨(wayS x7).1, 0⟩ : Rul) _ _ HS.sub) ?_
     clear HE HS; rintro _ w a HS rfl HE
     refine o_pick_t HE rfl rfl hb44 rfl ?_; clear HE; intro a HE
     exact ⟨HS, HE.cut ⟨by rw [hb44]; rfl, rfl, rfl, rfl, rfl, rfl, rfl, rfl, rfl, rfl, rfl, rfl, rfl, rfl, rfl, rfl, rfl, rfl, rfl, rfl, rfl, trivial⟩⟩
    ·subst hM0
     have hk46 := hb44; try simp only [zz1, zz2, zz3, zz4, zz5, zz7, zz8, zz9, zza, zzb] at hk46
     refine g_off HE rfl rfl rfl hb44 ?_; clear HE; intro a HE
     refine g_off HE rfl rfl rfl hb44 ?_; clear HE; intro a HE
     refine g_off HE rfl rfl rfl hb44 ?_; clear HE; intro a HE
     refine o_pick_f HE rfl rfl hb44 rfl ?_; clear HE; intro a HE
     exact ⟨HS, HE.cut ⟨by rw [hb44]; rfl, rfl, rfl, rfl, rfl, rfl, rfl, rfl, rfl, rfl, rfl, rfl, rfl, rfl, rfl, rfl, rfl, rfl, rfl, rfl, rfl, trivial⟩⟩
   clear HE HS; rintro a w ⟨HS, HE⟩; subst hM0
   refine o_assign HE rfl rfl ?_; clear HE; intro a HE
   refine hK _ _ ?_; clear hK K
   refine wp_ret ?_
   show Q .ret _ _
   refine ret hQ HE rfl (HE.res rfl .nil) ?_
   replace HS := HS.drop (M' := [_]) (sub_drop (sub_keep sub_nil))
   have e0 : w0S l = wayS x7 := by unfold w0S; rw [get0 ex7]
   have he : ruleS 3 P l = ((⟨⟨P.r0.way, P.r0.size⟩, ⟨P.r1.way, P.r1.size⟩, ⟨P.r2.way, P.r2.size⟩, ⟨(wayS x7).1, 0⟩, ⟨P.r4.way, P.r4.size⟩, P.time, P.note, P.loose, P.force⟩ : Pol), (((wayS x7).2) && (decide ((l.length : Int) = 1))) && (ruledB 3 ⟨(wayS x7).1, 0⟩)) := by
    unfold ruleS
    rw [if_neg (by omega), if_neg (by rw [e0]; omega), e0]
    rw [show decide ((l.length : Int) = 1) = decide (l.length = 1) from decide_eq_decide.2 (by omega)]
    rfl
   exact ⟨_, [(bp, Cells 26 [(0, .int .i64 P.r0.way), (1, .int .i64 P.r0.size), (2, .int .i64 P.r1.way), (3, .int .i64 P.r1.size), (4, .int .i64 P.r2.way), (5, .int .i64 P.r2.size), (6, .int .i64 ((wayS x7).1)), (7, .int .i64 0), (8, .int .i64 P.r4.way), (9, .int .i64 P.r4.size), (10, .int .i64 P.time), (11, .int .i64 P.note), (12, .bool P.loose), (13, .bool P.force)])], HS.stop (by simp), by rw [he] <;> rfl, by rw [he] <;> rfl⟩

/-! `incognito/policy.rule$1` -/
set_option maxRecDepth 100000 in
set_option maxHeartbeats 4000000 in
theorem c_rule4 (P : Pol) (l : List Bs) (A : Option Addr) (c : Nat) (bp : Nat) (bd : Nat) {W0 : World} {H0 : Heap} {L0 : List Nat} {M0 : List Chunk} (w0 : World) (G : Heap) (hS0 : St W0 H0 L0 G w0 ([(bp, Cells 26 [(0, .int .i64 P.r0.way), (1, .int .i64 P.r0.size), (2, .int .i64 P.r1.way), (3, .int .i64 P.r1.size), (4, .int .i64 P.r2.way), (5, .int .i64 P.r2.size), (6, .int .i64 P.r3.way), (7, .int .i64 P.r3.size), (8, .int .i64 P.r4.way), (9, .int .i64 P.r4.size), (10, .int .i64 P.time), (11, .int .i64 P.note), (12, .bool P.loose), (13, .bool P.force)])] :: M0)) (hR : Rd Knd.s G A l) (hc : l.length ≤ c) (hl : l.length ≤ 4294967281) (hls : ∀ x ∈ l, x.length ≤ 4294967280) (hCd : CellsAt G bd 0 [.int .i64 4]) (hgw : CellsAt G 1 0 [str [107, 101, 101, 112], str [111, 114, 100, 105, 110, 97, 108], str [107, 101, 121, 101, 100], str [114, 97, 110, 107], str [100, 114, 111, 112]]):
  Calls Tryd.prog 103 #[.pointer (some ⟨bp, 0, none⟩), .slice A l.length c, .pointer (some ⟨bd, 0, none⟩)] w0 (X.Ends w0 G [bp] (fun v G' C' => v = .bool (ruleS 4 P l).2 ∧ C' = [(bp, Cells 26 (pcE (ruleS 4 P l).1))]) (fun _ _ _ => False)) := by
 refine enter Tryd.func103 rfl Tryd.ntmps103 rfl ?_
 intro Q hQ a HE
 have HS := St.start (C := [(bp, Cells 26 [(0, .int .i64 P.r0.way), (1, .int .i64 P.r0.size), (2, .int .i64 P.r1.way), (3, .int .i64 P.r1.size), (4, .int .i64 P.r2.way), (5, .int .i64 P.r2.size), (6, .int .i64 P.r3.way), (7, .int .i64 P.r3.size), (8, .int .i64 P.r4.way), (9, .int .i64 P.r4.size), (10, .int .i64 P.time), (11, .int .i64 P.note), (12, .bool P.loose), (13, .bool P.force)])]) hS0.sub (fun p hp => hS0.mem p (by simp only [List.flatten_cons, List.mem_append]; exact .inl hp)) (fun p hp => hS0.sep p (by simp only [List.flatten_cons, List.mem_append]; exact .inl hp)) (by simp [X.keys])
 change St w0 G [bp] G w0 _ at HS
 refine wp_seq_k (fun K hK => ?_); refine wp_region_lit ?_
 refine o_assign HE rfl rfl ?_; clear HE; intro a HE
 refine hK _ _ ?_; clear hK K
 refine wp_seq_k (fun K3 hK2 => ?_)
 refine wp_seq_k (fun K hK => ?_); refine wp_region_lit ?_
 refine o_move HE rfl rfl ?_; clear HE; intro a HE
 refine o_lenL HE rfl rfl Tryd.underlying29 ?_; clear HE; intro a HE
 refine o_eqI HE rfl rfl rfl ?_; clear HE; intro a HE
 refine hK _ _ ?_; clear hK K
 refine cond HE rfl (fun h5 => ?_) (fun h5 => ?_)
 ·have h5r := h5; try simp only [zz1, zz2, zz3, zz4, zz5, zz6, zz7, zz8, zz9, zza, zzb] at h5
  refine wp_seq_k (fun K hK => ?_); refine wp_region_lit ?_
  refine o_assign HE rfl rfl ?_; clear HE; intro a HE
  refine hK _ _ ?_; clear hK K
  refine wp_ret ?_
  show Q .ret _ _
  refine ret hQ HE rfl (HE.res rfl .nil) ?_
  have he : ruleS 4 P l = ((⟨⟨P.r0.way, P.r0.size⟩, ⟨P.r1.way, P.r1.size⟩, ⟨P.r2.way, P.r2.size⟩, ⟨P.r3.way, P.r3.size⟩, ⟨P.r4.way, P.r4.size⟩, P.time, P.note, P.loose, P.force⟩ : Pol), false) := by
   unfold ruleS
   rw [if_pos (by omega)]
  exact ⟨_, [(bp, Cells 26 [(0, .int .i64 P.r0.way), (1, .int .i64 P.r0.size), (2, .int .i64 P.r1.way), (3, .int .i64 P.r1.size), (4, .int .i64 P.r2.way), (5, .int .i64 P.r2.size), (6, .int .i64 P.r3.way), (7, .int .i64 P.r3.size), (8, .int .i64 P.r4.way), (9, .int .i64 P.r4.size), (10, .int .i64 P.time), (11, .int .i64 P.note), (12, .bool P.loose), (13, .bool P.force)])], HS.stop (by simp), by rw [he] <;> rfl, by rw [he] <;> rfl⟩
 ·have h5r := h5; try simp only [zz1, zz2, zz3, zz4, zz5, zz6, zz7, zz8, zz9, zza, zzb] at h5
  refine wp_skip ?_
  refine hK2 _ _ ?_; clear hK2
  refine wp_seq_k (fun K hK => ?_); refine wp_region_lit ?_
  refine o_move HE rfl rfl ?_; clear HE; intro a HE
  have hi7 : (0 : Int).toNat < l.length := by omega
  obtain ⟨eb7, eo7, hA7, el7⟩ := Rd.at hR (List.getElem?_eq_getElem hi7); cases hA7
  obtain ⟨x7, ex7⟩ : ∃ x, l[(0 : Int).toNat] = x := ⟨_, rfl⟩; rw [ex7] at el7
  have el7 := kof_open (enc := fun l => str l) el7
  refine o_ixL HE rfl rfl rfl T.l29 ⟨by omega, by omega⟩ ?_; clear HE; intro a HE
  refine o_ldI HE rfl HS rfl T.s9 el7 (j := 0) rfl rfl ?_; clear HE; intro a HE
  refine o_callP HE rfl HS rfl rfl T.g72 (c_way x7 _ _ HS.sub hgw) ?_
  clear HE HS; rintro _ w a HS rfl HE
  refine o_move HE rfl rfl ?_; clear HE; intro a HE
  refine o_extract HE rfl rfl rfl ?_; clear HE; intro a HE
  refine o_extract HE rfl rfl rfl ?_; clear HE; intro a HE
  refine o_assign HE rfl rfl ?_; clear HE; intro a HE
  refine o_assign HE rfl rfl ?_; clear HE; intro a HE
  refine hK _ _ ?_; clear hK K
  refine wp_seq_k (fun K hK => ?_); refine wp_region_lit ?_
  refine o_move HE rfl rfl ?_; clear HE; intro a HE
  refine o_build (cs := #[.int .i64 ((wayS x7).1), .int .i64 0]) HE rfl rfl (by kernel_rfl) ?_; clear HE; intro a HE
  refine o_allocL [(0, _), (1, _)] HE rfl HS T.z23 ⟨rfl, rfl, trivial⟩ ?_; clear HE HS; intro B8 w a HS HE
  refine o_stA HE HS rfl rfl rfl T.a23 (.here .here) rfl ?_; clear HS; intro w HS
  refine hK _ _ ?_; clear hK K
  refine wp_seq_k (fun K11 hK10 => ?_)
  refine wp_seq_k (fun K hK => ?_); refine wp_region_lit ?_
  refine o_move HE rfl rfl ?_; clear HE; intro a HE
  refine o_eqI HE rfl rfl rfl ?_; clear HE; intro a HE
  refine o_move HE rfl rfl ?_; clear HE; intro a HE
  refine cutL 4 (fun a' w' => w = w' ∧ Env a' 63 [] [(29, .bool ((decide (((wayS x7).1) = 2)) && (decide ((l.length : Int) = 2)))), (0, .pointer (some ⟨bp, 0, none⟩)), (1, .slice (some ⟨eb7, eo7, none⟩) l.length c), (2, .pointer (some ⟨bd, 0, none⟩)), (5, .bool false), (6, .int .i64 ((wayS x7).1)), (7, .bool ((wayS x7).2)), (8, .pointer (some ⟨B8, 0, none⟩)), (11, .slice (some ⟨eb7, eo7, none⟩) l.length c), (12, .int .i64 (l.length : Int)), (13, .bool (decide ((l.length : Int) = 0))), (14, .tuple #[.int .i64 ((wayS x7).1), .bool ((wayS x7).2)]), (15, .slice (some ⟨eb7, eo7, none⟩) l.length c), (16, .pointer (some ⟨eb7, eo7 + (0 : Int).toNat * 1, none⟩)), (17, str x7), (18, .tuple #[.int .i64 ((wayS x7).1), .bool ((wayS x7).2)]), (19, .int .i64 ((wayS x7).1)), (20, .bool ((wayS x7).2)), (21, .int .i64 ((wayS x7).1)), (22, .agg #[.int .i64 ((wayS x7).1), .int .i64 0])]) ?_ ?_
  ·refine (Bool.eq_false_or_eq_true (decide (((wayS x7).1) = 2))).elim (fun hb12 => ?_) (fun hb12 => ?_)
   ·skip
    have hk13 := hb12; try simp only [zz1, zz2, zz3, zz4, zz5, zz7, zz8, zz9, zza, zzb] at hk13
    refine op_on HE rfl rfl hb12 ?_
    refine o_move HE rfl rfl ?_; clear HE; intro a HE
    refine op_on HE rfl rfl hb12 ?_
    refine o_lenL HE rfl rfl Tryd.underlying29 ?_; clear HE; intro a HE
    refine op_on HE rfl rfl hb12 ?_
    refine o_eqI HE rfl rfl rfl ?_; clear HE; intro a HE
    refine o_pick_t HE rfl rfl hb12 rfl ?_; clear HE; intro a HE
    exact ⟨rfl, HE.cut ⟨by rw [hb12]; rfl, rfl, rfl, rfl, rfl, rfl, rfl, rfl, rfl, rfl, rfl, rfl, rfl, rfl, rfl, rfl, rfl, rfl, rfl, rfl, trivial⟩⟩
   ·skip
    have hk14 := hb12; try simp only [zz1, zz2, zz3, zz4, zz5, zz7, zz8, zz9, zza, zzb] at hk14
    refine g_off HE rfl rfl rfl hb12 ?_; clear HE; intro a HE
    refine g_off HE rfl rfl rfl hb12 ?_; clear HE; intro a HE
    refine g_off HE rfl rfl rfl hb12 ?_; clear HE; intro a HE
    refine o_pick_f HE rfl rfl hb12 rfl ?_; clear HE; intro a HE
    exact ⟨rfl, HE.cut ⟨by rw [hb12]; rfl, rfl, rfl, rfl, rfl, rfl, rfl, rfl, rfl, rfl, rfl, rfl, rfl, rfl, rfl, rfl, rfl, rfl, rfl, rfl, trivial⟩⟩
  clear HE; rintro a _ ⟨rfl, HE⟩
  refine hK _ _ ?_; clear hK K
  refine cond HE rfl (fun h16 => ?_) (fun h16 => ?_)
  ·have h16r := h16; try simp only [zz1, zz2, zz3, zz4, zz5, zz6, zz7, zz8, zz9, zza, zzb] at h16
   refine wp_seq_k (fun K hK => ?_); refine wp_region_lit ?_
   refine o_move HE rfl rfl ?_; clear HE; intro a HE
   have hi17 : (1 : Int).toNat < l.length := by omega
   obtain ⟨eb17, eo17, hA17, el17⟩ := Rd.at hR (List.getElem?_eq_getElem hi17); cases hA17
   obtain ⟨x17, ex17⟩ : ∃ x, l[(1 : Int).toNat] = x := ⟨_, rfl⟩; rw [ex17] at el17
   have el17 := kof_open (enc := fun l => str l) el17
   refine o_ixL HE rfl rfl rfl T.l29 ⟨by omega, by omega⟩ ?_; clear HE; intro a HE
   refine o_ldI HE rfl HS rfl T.s9 el17 (j := 0) rfl rfl ?_; clear HE; intro a HE
   have hxl17 : x17.length ≤ 4294967280 := by rw [← ex17]; exact hls _ (List.getElem_mem _)
   refine o_callP HE rfl HS rfl rfl T.g84 (c_count x17 16 _ _ HS.sub (by first | assumption | decide) (by first | omega | (simp; done) | (simp; omega))) ?_
   clear HE HS; rintro _ w a HS rfl HE
   refine o_move HE rfl rfl ?_; clear HE; intro a HE
   refine o_extract HE rfl rfl rfl ?_; clear HE; intro a HE
   refine o_extract HE rfl rfl rfl ?_; clear HE; intro a HE
   refine o_assign HE rfl rfl ?_; clear HE; intro a HE
   refine o_assign HE rfl rfl ?_; clear HE; intro a HE
   refine hK _ _ ?_; clear hK K
   refine wp_seq_k (fun K hK => ?_); refine wp_region_lit ?_
   refine o_move HE rfl rfl ?_; clear HE; intro a HE
   refine o_move HE rfl rfl ?_; clear HE; intro a HE
   refine cutL 3 (fun a' w' => w = w' ∧ Env a' 63 [] [(41, .bool (((wayS x7).2) && (decide ((erv (countS x17 16)) = 0)))), (0, .pointer (some ⟨bp, 0, none⟩)), (1, .slice (some ⟨eb7, eo7, none⟩) l.length c), (2, .pointer (some ⟨bd, 0, none⟩)), (5, .bool false), (6, .int .i64 ((wayS x7).1)), (7, .bool ((wayS x7).2)), (8, .pointer (some ⟨B8, 0, none⟩)), (9, .int .i64 (okv (countS x17 16))), (11, .slice (some ⟨eb7, eo7, none⟩) l.length c), (12, .int .i64 (l.length : Int)), (13, .bool (decide ((l.length : Int) = 0))), (14, .tuple #[.int .i64 ((wayS x7).1), .bool ((wayS x7).2)]), (15, .slice (some ⟨eb7, eo7, none⟩) l.length c), (16, .pointer (some ⟨eb7, eo7 + (0 : Int).toNat * 1, none⟩)), (17, str x7), (18, .tuple #[.int .i64 ((wayS x7).1), .bool ((wayS x7).2)]), (19, .int .i64 ((wayS x7).1)), (20, .bool ((wayS x7).2)), (21, .int .i64 ((wayS x7).1)), (22, .agg #[.int .i64 ((wayS x7).1), .int .i64 0]), (29, .bool ((decide (((wayS x7).1) = 2)) && (decide ((l.length : Int) = 2)))), (30, .tuple #[.int .i64 (okv (countS x17 16)), .int .i64 (erv (countS x17 16))]), (31, .slice (some ⟨eb7, eo7, none⟩) l.length c), (32, .pointer (some ⟨eb7, eo7 + (1 : Int).toNat * 1, none⟩)), (33, str x17), (34, .tuple #[.int .i64 (okv (countS x17 16)), .int .i64 (erv (countS x17 16))]), (35, .int .i64 (okv (countS x17 16))), (36, .int .i64 (erv (countS x17 16)))]) ?_ ?_
   ·refine (Bool.eq_false_or_eq_true ((wayS x7).2)).elim (fun hb19 => ?_) (fun hb19 => ?_)
    ·skip
     have hk20 := hb19; try simp only [zz1, zz2, zz3, zz4, zz5, zz7, zz8, zz9, zza, zzb] at hk20
     refine op_on HE rfl rfl hb19 ?_
     refine o_move HE rfl rfl ?_; clear HE; intro a HE
     refine op_on HE rfl rfl hb19 ?_
     refine o_eqI HE rfl rfl rfl ?_; clear HE; intro a HE
     refine o_pick_t HE rfl rfl hb19 rfl ?_; clear HE; intro a HE
     exact ⟨rfl, HE.cut ⟨by rw [hb19]; rfl, rfl, rfl, rfl, rfl, rfl, rfl, rfl, rfl, rfl, rfl, rfl, rfl, rfl, rfl, rfl, rfl, rfl, rfl, rfl, rfl, rfl, rfl, rfl, rfl, rfl, rfl, rfl, rfl, trivial⟩⟩
    ·skip
     have hk21 := hb19; try simp only [zz1, zz2, zz3, zz4, zz5, zz7, zz8, zz9, zza, zzb] at hk21
     refine g_off HE rfl rfl rfl hb19 ?_; clear HE; intro a HE
     refine g_off HE rfl rfl rfl hb19 ?_; clear HE; intro a HE
     refine o_pick_f HE rfl rfl hb19 rfl ?_; clear HE; intro a HE
     exact ⟨rfl, HE.cut ⟨by rw [hb19]; rfl, rfl, rfl, rfl, rfl, rfl, rfl, rfl, rfl, rfl, rfl, rfl, rfl, rfl, rfl, rfl, rfl, rfl, rfl, rfl, rfl, rfl, rfl, rfl, rfl, rfl, rfl, rfl, rfl, trivial⟩⟩
   clear HE; rintro a _ ⟨rfl, HE⟩
   refine o_assign HE rfl rfl ?_; clear HE; intro a HE
   refine hK _ _ ?_; clear hK K
   replace HS := HS.conv (L2 := [(0, _), (1, _)]) (.here .here) ⟨rfl, rfl, trivial⟩
   have HE0 := HE
   have hR23 := Rd.take hR (1 : Int).toNat
   replace HE := HE.cut (L' := [(0, .pointer (some ⟨bp, 0, none⟩)), (2, .pointer (some ⟨bd, 0, none⟩)), (5, .bool false), (6, .int .i64 ((wayS x7).1)), (7, .bool (((wayS x7).2) && (decide ((erv (countS x17 16)) = 0)))), (8, .pointer (some ⟨B8, 0, none⟩)), (9, .int .i64 (okv (countS x17 16))), (11, .slice (some ⟨eb7, eo7, none⟩) l.length c), (12, .int .i64 (l.length : Int)), (13, .bool (decide ((l.length : Int) = 0))), (14, .tuple #[.int .i64 ((wayS x7).1), .bool ((wayS x7).2)]), (15, .slice (some ⟨eb7, eo7, none⟩) l.length c), (16, .pointer (some ⟨eb7, eo7 + (0 : Int).toNat * 1, none⟩)), (17, str x7), (18, .tuple #[.int .i64 ((wayS x7).1), .bool ((wayS x7).2)]), (19, .int .i64 ((wayS x7).1)), (20, .bool ((wayS x7).2)), (21, .int .i64 ((wayS x7).1)), (22, .agg #[.int .i64 ((wayS x7).1), .int .i64 0]), (29, .bool ((decide (((wayS x7).1) = 2)) && (decide ((l.length : Int) = 2)))), (30, .tuple #[.int .i64 (okv (countS x17 16)), .int .i64 (erv (countS x17 16))]), (31, .slice (some ⟨eb7, eo7, none⟩) l.length c), (32, .pointer (some ⟨eb7, eo7 + (1 : Int).toNat * 1, none⟩)), (33, str x17), (34, .tuple #[.int .i64 (okv (countS x17 16)), .int .i64 (erv (countS x17 16))]), (35, .int .i64 (okv (countS x17 16))), (36, .int .i64 (erv (countS x17 16))), (41, .bool (((wayS x7).2) && (decide ((erv (countS x17 16)) = 0))))]) ⟨rfl, rfl, rfl, rfl, rfl, rfl, rfl, rfl, rfl, rfl, rfl, rfl, rfl, rfl, rfl, rfl, rfl, rfl, rfl, rfl, rfl, rfl, rfl, rfl, rfl, rfl, rfl, rfl, trivial⟩
   refine drawnF (fun f G' w => Heap.le G G' ∧ St w0 G [bp] G' w [[(B8, Cells 23 [(0, .int .i64 ((wayS x7).1)), (1, bif f 4 then .int .i64 (okv (countS x17 16)) else .int .i64 0)])], [(bp, Cells 26 [(0, .int .i64 P.r0.way), (1, .int .i64 P.r0.size), (2, .int .i64 P.r1.way), (3, .int .i64 P.r1.size), (4, .int .i64 P.r2.way), (5, .int .i64 P.r2.size), (6, .int .i64 P.r3.way), (7, .int .i64 P.r3.size), (8, .int .i64 P.r4.way), (9, .int .i64 P.r4.size), (10, .int .i64 P.time), (11, .int .i64 P.note), (12, .bool P.loose), (13, .bool P.force)])]]) [fun v _ => v = .int .i64 (okv (countS x17 16)), fun v _ => v = .slice (some ⟨eb7, eo7, none⟩) l.length c, fun v _ => v = .slice (some ⟨eb7, eo7, none⟩) (((l).take (1 : Int).toNat).length) c, fun v _ => v = .pointer (some ⟨B8, 1, none⟩), fun _ _ => True, fun v _ => v = .slice (some ⟨eb7, eo7, none⟩) (((l).take (1 : Int).toNat).length) c] [(1, .slice (some ⟨eb7, eo7, none⟩) l.length c, 5)] T.mix rfl HE ⟨Heap.le.refl _, HS.drew⟩ rfl (fun t v k h => by simp only [List.mem_cons, Prod.mk.injEq, List.not_mem_nil, or_false] at h; obtain ⟨rfl, rfl, rfl⟩ := h; exact ⟨HE0.get _ _ rfl, rfl⟩) (AllM.get ⟨fun _ _ _ _ h => h, fun _ _ _ _ h => h, fun _ _ _ _ h => h, fun _ _ _ _ h => h, fun _ _ _ _ h => h, fun _ _ _ _ h => h, trivial⟩) ⟨?_, ?_, ?_, ?_, ?_, ?_, trivial⟩ ?_
   ·intro a w G1 f hcl hfi hon hW HE hp hO; obtain ⟨hl, HS⟩ := hW
    refine o_move HE rfl rfl ?_; clear HE; intro a HE
    exact ⟨_, _, Heap.le.refl _, ⟨hl, HS⟩, fun d hd => (by cases hd; exact HE.get _ _ rfl), HE.defers, rfl⟩
   ·intro a w G1 f hcl hfi hon hW HE hp hO; obtain ⟨hl, HS⟩ := hW
    have hfk : f 5 = false := by
     cases hq : f 5 with
     | false => rfl
     | true =>
      have hq := hcl 5 _ rfl hq 2 rfl
      have hq := hcl 2 _ rfl hq 1 rfl
      rw [hfi] at hq; cases hq
    replace HE := HE.add (hO 1 (.slice (some ⟨eb7, eo7, none⟩) l.length c) 5 (by simp) hfk)
    refine o_move HE rfl rfl ?_; clear HE; intro a HE
    exact ⟨_, _, Heap.le.refl _, ⟨hl, HS⟩, fun d hd => (by cases hd; exact HE.get _ _ rfl), HE.defers, rfl⟩
   ·intro a w G1 f hcl hfi hon hW HE hp hO; obtain ⟨hl, HS⟩ := hW
    obtain ⟨_, e1, rfl⟩ := hp 1 43 _ (hon 1 rfl) rfl rfl; replace HE := HE.add e1
    refine o_sliceRHi (K := Knd.s) (k := (1 : Int)) HE rfl rfl rfl T.l29 hR rfl (by omega) (by omega) ?_; clear HE; intro a _ _ HE
    exact ⟨_, _, Heap.le.refl _, ⟨hl, HS⟩, fun d hd => (by cases hd; exact HE.get _ _ rfl), HE.defers, rfl⟩
   ·intro a w G1 f hcl hfi hon hW HE hp hO; obtain ⟨hl, HS⟩ := hW
    refine o_fld HE rfl rfl T.f23_1 ?_; clear HE; intro a HE
    exact ⟨_, _, Heap.le.refl _, ⟨hl, HS⟩, fun d hd => (by cases hd; exact HE.get _ _ rfl), HE.defers, rfl⟩
   ·intro a w G1 f hcl hfi hon hW HE hp hO; obtain ⟨hl, HS⟩ := hW
    obtain ⟨_, e3, rfl⟩ := hp 3 45 _ (hon 3 rfl) rfl rfl; replace HE := HE.add e3
    obtain ⟨_, e0, rfl⟩ := hp 0 42 _ (hon 0 rfl) rfl rfl; replace HE := HE.add e0
    refine o_st HE HS rfl rfl rfl T.s3 (.here .here) rfl ?_; clear HS; intro w HS
    replace HS := HS.conv (L2 := [(0, _), (1, _)]) (.here .here) ⟨rfl, rfl, trivial⟩
    exact ⟨.bool true, _, Heap.le.refl _, ⟨hl, HS⟩, fun d hd => (by cases hd), HE.defers, trivial⟩
   ·intro a w G1 f hcl hfi hon hW HE hp hO; obtain ⟨hl, HS⟩ := hW
    obtain ⟨_, e2, rfl⟩ := hp 2 44 _ (hon 2 rfl) rfl rfl; replace HE := HE.add e2
    refine o_assign HE rfl rfl ?_; clear HE; intro a HE
    exact ⟨_, _, Heap.le.refl _, ⟨hl, HS⟩, fun d hd => (by cases hd; exact HE.get _ _ rfl), HE.defers, rfl⟩
   clear HE HS; intro a w G24 f hle25 hall HW HE hp; obtain ⟨_, HS⟩ := HW
   have hfw4 := hall 4 (by decide)
   simp only [hfw4, cond_true] at HS
   replace hR := hR.le hle25
   replace hCd := hCd.le hle25
   replace hgw := hgw.le hle25
   replace hR23 := hR23.le hle25
   obtain ⟨_, e5, rfl⟩ := hp 5 1 _ rfl rfl; replace HE := HE.add e5
   clear hp hall
   refine hK10 _ _ ?_; clear hK10
   refine wp_seq_k (fun K27 hK26 => ?_)
   replace HE := HE.cut (L' := [(0, .pointer (some ⟨bp, 0, none⟩)), (1, .slice (some ⟨eb7, eo7, none⟩) (((l).take (1 : Int).toNat).length) c), (2, .pointer (some ⟨bd, 0, none⟩)), (5, .bool false), (6, .int .i64 ((wayS x7).1)), (7, .bool (((wayS x7).2) && (decide ((erv (countS x17 16)) = 0)))), (8, .pointer (some ⟨B8, 0, none⟩)), (9, .int .i64 (okv (countS x17 16))), (11, .slice (some ⟨eb7, eo7, none⟩) l.length c), (12, .int .i64 (l.length : Int)), (13, .bool (decide ((l.length : Int) = 0))), (14, .tuple #[.int .i64 ((wayS x7).1), .bool ((wayS x7).2)]), (15, .slice (some ⟨eb7, eo7, none⟩) l.length c), (16, .pointer (some ⟨eb7, eo7 + (0 : Int).toNat * 1, none⟩)), (17, str x7), (18, .tuple #[.int .i64 ((wayS x7).1), .bool ((wayS x7).2)]), (19, .int .i64 ((wayS x7).1)), (20, .bool ((wayS x7).2)), (21, .int .i64 ((wayS x7).1)), (22, .agg #[.int .i64 ((wayS x7).1), .int .i64 0]), (29, .bool ((decide (((wayS x7).1) = 2)) && (decide ((l.length : Int) = 2)))), (30, .tuple #[.int .i64 (okv (countS x17 16)), .int .i64 (erv (countS x17 16))]), (31, .slice (some ⟨eb7, eo7, none⟩) l.length c), (32, .pointer (some ⟨eb7, eo7 + (1 : Int).toNat * 1, none⟩)), (33, str x17), (34, .tuple #[.int .i64 (okv (countS x17 16)), .int .i64 (erv (countS x17 16))]), (35, .int .i64 (okv (countS x17 16))), (36, .int .i64 (erv (countS x17 16))), (41, .bool (((wayS x7).2) && (decide ((erv (countS x17 16)) = 0))))]) ⟨rfl, rfl, rfl, rfl, rfl, rfl, rfl, rfl, rfl, rfl, rfl, rfl, rfl, rfl, rfl, rfl, rfl, rfl, rfl, rfl, rfl, rfl, rfl, rfl, rfl, rfl, rfl, rfl, rfl, trivial⟩
   refine drawnF (fun f G' w => Heap.le G24 G' ∧ St w0 G [bp] G' w [[(B8, Cells 23 [(0, .int .i64 ((wayS x7).1)), (1, .int .i64 (okv (countS x17 16)))])], [(bp, Cells 26 [(0, .int .i64 P.r0.way), (1, .int .i64 P.r0.size), (2, .int .i64 P.r1.way), (3, .int .i64 P.r1.size), (4, .int .i64 P.r2.way), (5, .int .i64 P.r2.size), (6, .int .i64 P.r3.way), (7, .int .i64 P.r3.size), (8, bif f 6 then .int .i64 ((wayS x7).1) else .int .i64 P.r4.way), (9, bif f 6 then .int .i64 (okv (countS x17 16)) else .int .i64 P.r4.size), (10, .int .i64 P.time), (11, .int .i64 P.note), (12, .bool P.loose), (13, .bool P.force)])]]) [fun v _ => v = .pointer (some ⟨bp, 0, none⟩), fun v _ => v = .int .i64 4, fun v _ => v = .agg #[.int .i64 ((wayS x7).1), .int .i64 (okv (countS x17 16))], fun v _ => v = .pointer (some ⟨bp, 0, none⟩), fun v _ => v = .pointer (some ⟨bp, 0, none⟩), fun v _ => v = .pointer (some ⟨bp, 8, none⟩), fun _ _ => True] [] T.mix rfl HE ⟨Heap.le.refl _, HS.drew⟩ rfl (by simp) (AllM.get ⟨fun _ _ _ _ h => h, fun _ _ _ _ h => h, fun _ _ _ _ h => h, fun _ _ _ _ h => h, fun _ _ _ _ h => h, fun _ _ _ _ h => h, fun _ _ _ _ h => h, trivial⟩) ⟨?_, ?_, ?_, ?_, ?_, ?_, ?_, trivial⟩ ?_
   ·intro a w G1 f hcl hfi hon hW HE hp hO; obtain ⟨hl, HS⟩ := hW
    refine o_move HE rfl rfl ?_; clear HE; intro a HE
    exact ⟨_, _, Heap.le.refl _, ⟨hl, HS⟩, fun d hd => (by cases hd; exact HE.get _ _ rfl), HE.defers, rfl⟩
   ·intro a w G1 f hcl hfi hon hW HE hp hO; obtain ⟨hl, HS⟩ := hW
    refine o_ldI HE rfl HS rfl T.s3 (hCd.le hl) (j := 0) rfl rfl ?_; clear HE; intro a HE
    exact ⟨_, _, Heap.le.refl _, ⟨hl, HS⟩, fun d hd => (by cases hd; exact HE.get _ _ rfl), HE.defers, rfl⟩
   ·intro a w G1 f hcl hfi hon hW HE hp hO; obtain ⟨hl, HS⟩ := hW
    refine o_ldA HE rfl HS rfl T.a23 (.here .here) rfl ?_; clear HE; intro a HE
    exact ⟨_, _, Heap.le.refl _, ⟨hl, HS⟩, fun d hd => (by cases hd; exact HE.get _ _ rfl), HE.defers, rfl⟩
   ·intro a w G1 f hcl hfi hon hW HE hp hO; obtain ⟨hl, HS⟩ := hW
    obtain ⟨_, e0, rfl⟩ := hp 0 46 _ (hon 0 rfl) rfl rfl; replace HE := HE.add e0
    refine o_nil HE rfl rfl ?_; clear HE; intro a HE
    exact ⟨_, _, Heap.le.refl _, ⟨hl, HS⟩, fun d hd => (by cases hd; exact HE.get _ _ rfl), HE.defers, rfl⟩
   ·intro a w G1 f hcl hfi hon hW HE hp hO; obtain ⟨hl, HS⟩ := hW
    obtain ⟨_, e3, rfl⟩ := hp 3 49 _ (hon 3 rfl) rfl rfl; replace HE := HE.add e3
    refine o_fld HE rfl rfl T.f26_0 ?_; clear HE; intro a HE
    exact ⟨_, _, Heap.le.refl _, ⟨hl, HS⟩, fun d hd => (by cases hd; exact HE.get _ _ rfl), HE.defers, rfl⟩
   ·intro a w G1 f hcl hfi hon hW HE hp hO; obtain ⟨hl, HS⟩ := hW
    obtain ⟨_, e4, rfl⟩ := hp 4 50 _ (hon 4 rfl) rfl rfl; replace HE := HE.add e4
    obtain ⟨_, e1, rfl⟩ := hp 1 47 _ (hon 1 rfl) rfl rfl; replace HE := HE.add e1
    refine o_ixA HE rfl rfl rfl T.r24 (by decide) ?_; clear HE; intro a HE
    exact ⟨_, _, Heap.le.refl _, ⟨hl, HS⟩, fun d hd => (by cases hd; exact HE.get _ _ rfl), HE.defers, rfl⟩
   ·intro a w G1 f hcl hfi hon hW HE hp hO; obtain ⟨hl, HS⟩ := hW
    obtain ⟨_, e5, rfl⟩ := hp 5 51 _ (hon 5 rfl) rfl rfl; replace HE := HE.add e5
    obtain ⟨_, e2, rfl⟩ := hp 2 48 _ (hon 2 rfl) rfl rfl; replace HE := HE.add e2
    refine o_stA HE HS rfl rfl rfl T.a23 (.there (.here .here)) rfl ?_; clear HS; intro w HS
    replace HS := HS.conv (L2 := [(0, _), (1, _), (2, _), (3, _), (4, _), (5, _), (6, _), (7, _), (8, _), (9, _), (10, _), (11, _), (12, _), (13, _)]) (.there (.here .here)) ⟨rfl, rfl, rfl, rfl, rfl, rfl, rfl, rfl, rfl, rfl, rfl, rfl, rfl, rfl, trivial⟩
    exact ⟨.bool true, _, Heap.le.refl _, ⟨hl, HS⟩, fun d hd => (by cases hd), HE.defers, trivial⟩
   clear HE HS; intro a w G28 f hle29 hall HW HE hp; obtain ⟨_, HS⟩ := HW
   have hfw6 := hall 6 (by decide)
   simp only [hfw6, cond_true] at HS
   replace hR := hR.le hle29
   replace hCd := hCd.le hle29
   replace hgw := hgw.le hle29
   replace hR23 := hR23.le hle29
   clear hp hall
   refine hK26 _ _ ?_; clear hK26
   refine wp_seq_k (fun K hK => ?_); refine wp_region_lit ?_
   refine o_move HE rfl rfl ?_; clear HE; intro a HE
   refine o_move HE rfl rfl ?_; clear HE; intro a HE
   refine cutL 4 (fun a' w' => w = w' ∧ Env a' 63 [] [(57, .bool ((((wayS x7).2) && (decide ((erv (countS x17 16)) = 0))) && (decide ((((l).take (1 : Int).toNat).length : Int) = 1)))), (0, .pointer (some ⟨bp, 0, none⟩)), (1, .slice (some ⟨eb7, eo7, none⟩) (((l).take (1 : Int).toNat).length) c), (2, .pointer (some ⟨bd, 0, none⟩)), (5, .bool false), (6, .int .i64 ((wayS x7).1)), (7, .bool (((wayS x7).2) && (decide ((erv (countS x17 16)) = 0)))), (8, .pointer (some ⟨B8, 0, none⟩)), (9, .int .i64 (okv (countS x17 16))), (11, .slice (some ⟨eb7, eo7, none⟩) l.length c), (12, .int .i64 (l.length : Int)), (13, .bool (decide ((l.length : Int) = 0))), (14, .tuple #[.int .i64 ((wayS x7).1), .bool ((wayS x7).2)]), (15, .slice (some ⟨eb7, eo7, none⟩) l.length c), (16, .pointer (some ⟨eb7, eo7 + (0 : Int).toNat * 1, none⟩)), (17, str x7), (18, .tuple #[.int .i64 ((wayS x7).1), .bool ((wayS x7).2)]), (19, .int .i64 ((wayS x7).1)), (20, .bool ((wayS x7).2)), (21, .int .i64 ((wayS x7).1)), (22, .agg #[.int .i64 ((wayS x7).1), .int .i64 0]), (29, .bool ((decide (((wayS x7).1) = 2)) && (decide ((l.length : Int) = 2)))), (30, .tuple #[.int .i64 (okv (countS x17 16)), .int .i64 (erv (countS x17 16))]), (31, .slice (some ⟨eb7, eo7, none⟩) l.length c), (32, .pointer (some ⟨eb7, eo7 + (1 : Int).toNat * 1, none⟩)), (33, str x17), (34, .tuple #[.int .i64 (okv (countS x17 16)), .int .i64 (erv (countS x17 16))]), (35, .int .i64 (okv (countS x17 16))), (36, .int .i64 (erv (countS x17 16))), (41, .bool (((wayS x7).2) && (decide ((erv (countS x17 16)) = 0))))]) ?_ ?_
   ·refine (Bool.eq_false_or_eq_true (((wayS x7).2) && (decide ((erv (countS x17 16)) = 0)))).elim (fun hb30 => ?_) (fun hb30 => ?_)
    ·skip
     have hk31 := hb30; try simp only [zz1, zz2, zz3, zz4, zz5, zz7, zz8, zz9, zza, zzb] at hk31
     refine op_on HE rfl rfl hb30 ?_
     refine o_move HE rfl rfl ?_; clear HE; intro a HE
     refine op_on HE rfl rfl hb30 ?_
     refine o_lenL HE rfl rfl Tryd.underlying29 ?_; clear HE; intro a HE
     refine op_on HE rfl rfl hb30 ?_
     refine o_eqI HE rfl rfl rfl ?_; clear HE; intro a HE
     refine o_pick_t HE rfl rfl hb30 rfl ?_; clear HE; intro a HE
     exact ⟨rfl, HE.cut ⟨by rw [hb30]; rfl, rfl, rfl, rfl, rfl, rfl, rfl, rfl, rfl, rfl, rfl, rfl, rfl, rfl, rfl, rfl, rfl, rfl, rfl, rfl, rfl, rfl, rfl, rfl, rfl, rfl, rfl, rfl, rfl, rfl, trivial⟩⟩
    ·skip
     have hk32 := hb30; try simp only [zz1, zz2, zz3, zz4, zz5, zz7, zz8, zz9, zza, zzb] at hk32
     refine g_off HE rfl rfl rfl hb30 ?_; clear HE; intro a HE
     refine g_off HE rfl rfl rfl hb30 ?_; clear HE; intro a HE
     refine g_off HE rfl rfl rfl hb30 ?_; clear HE; intro a HE
     refine o_pick_f HE rfl rfl hb30 rfl ?_; clear HE; intro a HE
     exact ⟨rfl, HE.cut ⟨by rw [hb30]; rfl, rfl, rfl, rfl, rfl, rfl, rfl, rfl, rfl, rfl, rfl, rfl, rfl, rfl, rfl, rfl, rfl, rfl, rfl, rfl, rfl, rfl, rfl, rfl, rfl, rfl, rfl, rfl, rfl, rfl, trivial⟩⟩
   clear HE; rintro a _ ⟨rfl, HE⟩
   refine o_move HE rfl rfl ?_; clear HE; intro a HE
   obtain ⟨M0, hM0, HS⟩ : ∃ M0, M0 = _ ∧ St w0 G [bp] G28 _ M0 := ⟨_, rfl, HS⟩
   refine cutL 4 (fun a' w' => St w0 G [bp] G28 w' M0 ∧ Env a' 63 [] [(62, .bool (((((wayS x7).2) && (decide ((erv (countS x17 16)) = 0))) && (decide ((((l).take (1 : Int).toNat).length : Int) = 1))) && (ruledB 4 ⟨(wayS x7).1, okv (countS x17 16)⟩))), (0, .pointer (some ⟨bp, 0, none⟩)), (1, .slice (some ⟨eb7, eo7, none⟩) (((l).take (1 : Int).toNat).length) c), (2, .pointer (some ⟨bd, 0, none⟩)), (5, .bool false), (6, .int .i64 ((wayS x7).1)), (7, .bool (((wayS x7).2) && (decide ((erv (countS x17 16)) = 0)))), (8, .pointer (some ⟨B8, 0, none⟩)), (9, .int .i64 (okv (countS x17 16))), (11, .slice (some ⟨eb7, eo7, none⟩) l.length c), (12, .int .i64 (l.length : Int)), (13, .bool (decide ((l.length : Int) = 0))), (14, .tuple #[.int .i64 ((wayS x7).1), .bool ((wayS x7).2)]), (15, .slice (some ⟨eb7, eo7, none⟩) l.length c), (16, .pointer (some ⟨eb7, eo7 + (0 : Int).toNat * 1, none⟩)), (17, str x7), (18, .tuple #[.int .i64 ((wayS x7).1), .bool ((wayS x7).2)]), (19, .int .i64 ((wayS x7).1)), (20, .bool ((wayS x7).2)), (21, .int .i64 ((wayS x7).1)), (22, .agg #[.int .i64 ((wayS x7).1), .int .i64 0]), (29, .bool ((decide (((wayS x7).1) = 2)) && (decide ((l.length : Int) = 2)))), (30, .tuple #[.int .i64 (okv (countS x17 16)), .int .i64 (erv (countS x17 16))]), (31, .slice (some ⟨eb7, eo7, none⟩) l.length c), (32, .pointer (some ⟨eb7, eo7 + (1 : Int).toNat * 1, none⟩)), (33, str x17), (34, .tuple #[.int .i64 (okv (countS x17 16)), .int .i64 (erv (countS x17 16))]), (35, .int .i64 (okv (countS x17 16))), (36, .int .i64 (erv (countS x17 16))), (41, .bool (((wayS x7).2) && (decide ((erv (countS x17 16)) = 0))))]) ?_ ?_
   ·refine (Bool.eq_false_or_eq_true ((((wayS x7).2) && (decide ((erv (countS x17 16)) = 0))) && (decide ((((l).take (1 : Int).toNat).length : Int) = 1)))).elim (fun hb33 => ?_) (fun hb33 => ?_)
    ·subst hM0
     have hk34 := hb33; try simp only [zz1, zz2, zz3, zz4, zz5, zz7, zz8, zz9, zza, zzb] at hk34
     refine op_on HE rfl rfl hb33 ?_
     refine o_ldI HE rfl HS rfl T.s3 hCd (j := 0) rfl rfl ?_; clear HE; intro a HE
     refine op_on HE rfl rfl hb33 ?_
     refine o_ldA HE rfl HS rfl T.a23 (.here .here) rfl ?_; clear HE; intro a HE
     refine op_on HE rfl rfl hb33 ?_
     refine o_callP HE rfl HS rfl rfl T.g41 (c_ruled 4 (⟨(wayS x7).1, okv (countS x17 16)⟩ : Rul) _ _ HS.sub) ?_
     clear HE HS; rintro _ w a HS rfl HE
     refine o_pick_t HE rfl rfl hb33 rfl ?_; clear HE; intro a HE
     exact ⟨HS, HE.cut ⟨by rw [hb33]; rfl, rfl, rfl, rfl, rfl, rfl, rfl, rfl, rfl, rfl, rfl, rfl, rfl, rfl, rfl, rfl, rfl, rfl, rfl, rfl, rfl, rfl, rfl, rfl, rfl, rfl, rfl, rfl, rfl, rfl, trivial⟩⟩
    ·subst hM0
     have hk35 := hb33; try simp only [zz1, zz2, zz3, zz4, zz5, zz7, zz8, zz9, zza, zzb] at hk35
     refine g_off HE rfl rfl rfl hb33 ?_; clear HE; intro a HE
     refine g_off HE rfl rfl rfl hb33 ?_; clear HE; intro a HE
     refine g_off HE rfl rfl rfl hb33 ?_; clear HE; intro a HE
     refine o_pick_f HE rfl rfl hb33 rfl ?_; clear HE; intro a HE
     exact ⟨HS, HE.cut ⟨by rw [hb33]; rfl, rfl, rfl, rfl, rfl, rfl, rfl, rfl, rfl, rfl, rfl, rfl, rfl, rfl, rfl, rfl, rfl, rfl, rfl, rfl, rfl, rfl, rfl, rfl, rfl, rfl, rfl, rfl, rfl, rfl, trivial⟩⟩
   clear HE HS; rintro a w ⟨HS, HE⟩; subst hM0
   refine o_assign HE rfl rfl ?_; clear HE; intro a HE
   refine hK _ _ ?_; clear hK K
   refine wp_ret ?_
   show Q .ret _ _
   refine ret hQ HE rfl (HE.res rfl .nil) ?_
   replace HS := HS.drop (M' := [_]) (sub_drop (sub_keep sub_nil))
   have e0 : w0S l = wayS x7 := by unfold w0S; rw [get0 ex7]
   have e1 := get1 ex17
   have he : ruleS 4 P l = ((⟨⟨P.r0.way, P.r0.size⟩, ⟨P.r1.way, P.r1.size⟩, ⟨P.r2.way, P.r2.size⟩, ⟨P.r3.way, P.r3.size⟩, ⟨(wayS x7).1, okv (countS x17 16)⟩, P.time, P.note, P.loose, P.force⟩ : Pol), ((((wayS x7).2) && (decide ((erv (countS x17 16)) = 0))) && (decide ((((l).take (1 : Int).toNat).length : Int) = 1))) && (ruledB 4 ⟨(wayS x7).1, okv (countS x17 16)⟩)) := by
    unfold ruleS
    rw [if_neg (by omega), if_pos (by rw [e0]; omega), e0, e1]
    rw [show decide (((l.take (1 : Int).toNat).length : Int) = 1) = true from decide_eq_true (by rw [List.length_take]; omega), Bool.and_true]
    rfl
   exact ⟨_, [(bp, Cells 26 [(0, .int .i64 P.r0.way), (1, .int .i64 P.r0.size), (2, .int .i64 P.r1.way), (3, .int .i64 P.r1.size), (4, .int .i64 P.r2.way), (5, .int .i64 P.r2.size), (6, .int .i64 P.r3.way), (7, .int .i64 P.r3.size), (8, .int .i64 ((wayS x7).1)), (9, .int .i64 (okv (countS x17 16))), (10, .int .i64 P.time), (11, .int .i64 P.note), (12, .bool P.loose), (13, .bool P.force)])], HS.stop (by simp), by rw [he] <;> rfl, by rw [he] <;> rfl⟩
  ·have h16r := h16; try simp only [zz1, zz2, zz3, zz4, zz5, zz6, zz7, zz8, zz9, zza, zzb] at h16
   refine wp_skip ?_
   refine hK10 _ _ ?_; clear hK10
   refine wp_seq_k (fun K38 hK37 => ?_)
   replace HS := HS.conv (L2 := [(0, _), (1, _)]) (.here .here) ⟨rfl, rfl, trivial⟩
   replace HE := HE.cut (L' := [(0, .pointer (some ⟨bp, 0, none⟩)), (1, .slice (some ⟨eb7, eo7, none⟩) l.length c), (2, .pointer (some ⟨bd, 0, none⟩)), (5, .bool false), (6, .int .i64 ((wayS x7).1)), (7, .bool ((wayS x7).2)), (8, .pointer (some ⟨B8, 0, none⟩)), (11, .slice (some ⟨eb7, eo7, none⟩) l.length c), (12, .int .i64 (l.length : Int)), (13, .bool (decide ((l.length : Int) = 0))), (14, .tuple #[.int .i64 ((wayS x7).1), .bool ((wayS x7).2)]), (15, .slice (some ⟨eb7, eo7, none⟩) l.length c), (16, .pointer (some ⟨eb7, eo7 + (0 : Int).toNat * 1, none⟩)), (17, str x7), (18, .tuple #[.int .i64 ((wayS x7).1), .bool ((wayS x7).2)]), (19, .int .i64 ((wayS x7).1)), (20, .bool ((wayS x7).2)), (21, .int .i64 ((wayS x7).1)), (22, .agg #[.int .i64 ((wayS x7).1), .int .i64 0]), (29, .bool ((decide (((wayS x7).1) = 2)) && (decide ((l.length : Int) = 2))))]) ⟨rfl, rfl, rfl, rfl, rfl, rfl, rfl, rfl, rfl, rfl, rfl, rfl, rfl, rfl, rfl, rfl, rfl, rfl, rfl, rfl, trivial⟩
   refine drawnF (fun f G' w => Heap.le G G' ∧ St w0 G [bp] G' w [[(B8, Cells 23 [(0, .int .i64 ((wayS x7).1)), (1, .int .i64 0)])], [(bp, Cells 26 [(0, .int .i64 P.r0.way), (1, .int .i64 P.r0.size), (2, .int .i64 P.r1.way), (3, .int .i64 P.r1.size), (4, .int .i64 P.r2.way), (5, .int .i64 P.r2.size), (6, .int .i64 P.r3.way), (7, .int .i64 P.r3.size), (8, bif f 6 then .int .i64 ((wayS x7).1) else .int .i64 P.r4.way), (9, bif f 6 then .int .i64 0 else .int .i64 P.r4.size), (10, .int .i64 P.time), (11, .int .i64 P.note), (12, .bool P.loose), (13, .bool P.force)])]]) [fun v _ => v = .pointer (some ⟨bp, 0, none⟩), fun v _ => v = .int .i64 4, fun v _ => v = .agg #[.int .i64 ((wayS x7).1), .int .i64 0], fun v _ => v = .pointer (some ⟨bp, 0, none⟩), fun v _ => v = .pointer (some ⟨bp, 0, none⟩), fun v _ => v = .pointer (some ⟨bp, 8, none⟩), fun _ _ => True] [] T.mix rfl HE ⟨Heap.le.refl _, HS.drew⟩ rfl (by simp) (AllM.get ⟨fun _ _ _ _ h => h, fun _ _ _ _ h => h, fun _ _ _ _ h => h, fun _ _ _ _ h => h, fun _ _ _ _ h => h, fun _ _ _ _ h => h, fun _ _ _ _ h => h, trivial⟩) ⟨?_, ?_, ?_, ?_, ?_, ?_, ?_, trivial⟩ ?_
   ·intro a w G1 f hcl hfi hon hW HE hp hO; obtain ⟨hl, HS⟩ := hW
    refine o_move HE rfl rfl ?_; clear HE; intro a HE
    exact ⟨_, _, Heap.le.refl _, ⟨hl, HS⟩, fun d hd => (by cases hd; exact HE.get _ _ rfl), HE.defers, rfl⟩
   ·intro a w G1 f hcl hfi hon hW HE hp hO; obtain ⟨hl, HS⟩ := hW
    refine o_ldI HE rfl HS rfl T.s3 (hCd.le hl) (j := 0) rfl rfl ?_; clear HE; intro a HE
    exact ⟨_, _, Heap.le.refl _, ⟨hl, HS⟩, fun d hd => (by cases hd; exact HE.get _ _ rfl), HE.defers, rfl⟩
   ·intro a w G1 f hcl hfi hon hW HE hp hO; obtain ⟨hl, HS⟩ := hW
    refine o_ldA HE rfl HS rfl T.a23 (.here .here) rfl ?_; clear HE; intro a HE
    exact ⟨_, _, Heap.le.refl _, ⟨hl, HS⟩, fun d hd => (by cases hd; exact HE.get _ _ rfl), HE.defers, rfl⟩
   ·intro a w G1 f hcl hfi hon hW HE hp hO; obtain ⟨hl, HS⟩ := hW
    obtain ⟨_, e0, rfl⟩ := hp 0 46 _ (hon 0 rfl) rfl rfl; replace HE := HE.add e0
    refine o_nil HE rfl rfl ?_; clear HE; intro a HE
    exact ⟨_, _, Heap.le.refl _, ⟨hl, HS⟩, fun d hd => (by cases hd; exact HE.get _ _ rfl), HE.defers, rfl⟩
   ·intro a w G1 f hcl hfi hon hW HE hp hO; obtain ⟨hl, HS⟩ := hW
    obtain ⟨_, e3, rfl⟩ := hp 3 49 _ (hon 3 rfl) rfl rfl; replace HE := HE.add e3
    refine o_fld HE rfl rfl T.f26_0 ?_; clear HE; intro a HE
    exact ⟨_, _, Heap.le.refl _, ⟨hl, HS⟩, fun d hd => (by cases hd; exact HE.get _ _ rfl), HE.defers, rfl⟩
   ·intro a w G1 f hcl hfi hon hW HE hp hO; obtain ⟨hl, HS⟩ := hW
    obtain ⟨_, e4, rfl⟩ := hp 4 50 _ (hon 4 rfl) rfl rfl; replace HE := HE.add e4
    obtain ⟨_, e1, rfl⟩ := hp 1 47 _ (hon 1 rfl) rfl rfl; replace HE := HE.add e1
    refine o_ixA HE rfl rfl rfl T.r24 (by decide) ?_; clear HE; intro a HE
    exact ⟨_, _, Heap.le.refl _, ⟨hl, HS⟩, fun d hd => (by cases hd; exact HE.get _ _ rfl), HE.defers, rfl⟩
   ·intro a w G1 f hcl hfi hon hW HE hp hO; obtain ⟨hl, HS⟩ := hW
    obtain ⟨_, e5, rfl⟩ := hp 5 51 _ (hon 5 rfl) rfl rfl; replace HE := HE.add e5
    obtain ⟨_, e2, rfl⟩ := hp 2 48 _ (hon 2 rfl) rfl rfl; replace HE := HE.add e2
    refine o_stA HE HS rfl rfl rfl T.a23 (.there (.here .here)) rfl ?_; clear HS; intro w HS
    replace HS := HS.conv (L2 := [(0, _), (1, _), (2, _), (3, _), (4, _), (5, _), (6, _), (7, _), (8, _), (9, _), (10, _), (11, _), (12, _), (13, _)]) (.there (.here .here)) ⟨rfl, rfl, rfl, rfl, rfl, rfl, rfl, rfl, rfl, rfl, rfl, rfl, rfl, rfl, trivial⟩
    exact ⟨.bool true, _, Heap.le.refl _, ⟨hl, HS⟩, fun d hd => (by cases hd), HE.defers, trivial⟩
   clear HE HS; intro a w G39 f hle40 hall HW HE hp; obtain ⟨_, HS⟩ := HW
   have hfw6 := hall 6 (by decide)
   simp only [hfw6, cond_true] at HS
   replace hR := hR.le hle40
   replace hCd := hCd.le hle40
   replace hgw := hgw.le hle40
   clear hp hall
   refine hK37 _ _ ?_; clear hK37
   refine wp_seq_k (fun K hK => ?_); refine wp_region_lit ?_
   refine o_move HE rfl rfl ?_; clear HE; intro a HE
   refine o_move HE rfl rfl ?_; clear HE; intro a HE
   refine cutL 4 (fun a' w' => w = w' ∧ Env a' 63 [] [(57, .bool (((wayS x7).2) && (decide ((l.length : Int) = 1)))), (0, .pointer (some ⟨bp, 0, none⟩)), (1, .slice (some ⟨eb7, eo7, none⟩) l.length c), (2, .pointer (some ⟨bd, 0, none⟩)), (5, .bool false), (6, .int .i64 ((wayS x7).1)), (7, .bool ((wayS x7).2)), (8, .pointer (some ⟨B8, 0, none⟩)), (11, .slice (some ⟨eb7, eo7, none⟩) l.length c), (12, .int .i64 (l.length : Int)), (13, .bool (decide ((l.length : Int) = 0))), (14, .tuple #[.int .i64 ((wayS x7).1), .bool ((wayS x7).2)]), (15, .slice (some ⟨eb7, eo7, none⟩) l.length c), (16, .pointer (some ⟨eb7, eo7 + (0 : Int).toNat * 1, none⟩)), (17, str x7), (18, .tuple #[.int .i64 ((wayS x7).1), .bool ((wayS x7).2)]), (19, .int .i64 ((wayS x7).1)), (20, .bool ((wayS x7).2)), (21, .int .i64 ((wayS x7).1)), (22, .agg #[.int .i64 ((wayS x7).1), .int .i64 0]), (29, .bool ((decide (((wayS x7).1) = 2)) && (decide ((l.length : Int) = 2))))]) ?_ ?_
   ·refine (Bool.eq_false_or_eq_true ((wayS x7).2)).elim (fun hb41 => ?_) (fun hb41 => ?_)
    ·skip
     have hk42 := hb41; try simp only [zz1, zz2, zz3, zz4, zz5, zz7, zz8, zz9, zza, zzb] at hk42
     refine op_on HE rfl rfl hb41 ?_
     refine o_move HE rfl rfl ?_; clear HE; intro a HE
     refine op_on HE rfl rfl hb41 ?_
     refine o_lenL HE rfl rfl Tryd.underlying29 ?_; clear HE; intro a HE
     refine op_on HE rfl rfl hb41 ?_
     refine o_eqI HE rfl rfl rfl ?_; clear HE; intro a HE
     refine o_pick_t HE rfl rfl hb41 rfl ?_; clear HE; intro a HE
     exact ⟨rfl, HE.cut ⟨by rw [hb41]; rfl, rfl, rfl, rfl, rfl, rfl, rfl, rfl, rfl, rfl, rfl, rfl, rfl, rfl, rfl, rfl, rfl, rfl, rfl, rfl, rfl, trivial⟩⟩
    ·skip
     have hk43 := hb41; try simp only [zz1, zz2, zz3, zz4, zz5, zz7, zz8, zz9, zza, zzb] at hk43
     refine g_off HE rfl rfl rfl hb41 ?_; clear HE; intro a HE
     refine g_off HE rfl rfl rfl hb41 ?_; clear HE; intro a HE
     refine g_off HE rfl rfl rfl hb41 ?_; clear HE; intro a HE
     refine o_pick_f HE rfl rfl hb41 rfl ?_; clear HE; intro a HE
     exact ⟨rfl, HE.cut ⟨by rw [hb41]; rfl, rfl, rfl, rfl, rfl, rfl, rfl, rfl, rfl, rfl, rfl, rfl, rfl, rfl, rfl, rfl, rfl, rfl, rfl, rfl, rfl, trivial⟩⟩
   clear HE; rintro a _ ⟨rfl, HE⟩
   refine o_move HE rfl rfl ?_; clear HE; intro a HE
   obtain ⟨M0, hM0, HS⟩ : ∃ M0, M0 = _ ∧ St w0 G [bp] G39 _ M0 := ⟨_, rfl, HS⟩
   refine cutL 4 (fun a' w' => St w0 G [bp] G39 w' M0 ∧ Env a' 63 [] [(62, .bool ((((wayS x7).2) && (decide ((l.length : Int) = 1))) && (ruledB 4 ⟨(wayS x7).1, 0⟩))), (0, .pointer (some ⟨bp, 0, none⟩)), (1, .slice (some ⟨eb7, eo7, none⟩) l.length c), (2, .pointer (some ⟨bd, 0, none⟩)), (5, .bool false), (6, .int .i64 ((wayS x7).1)), (7, .bool ((wayS x7).2)), (8, .pointer (some ⟨B8, 0, none⟩)), (11, .slice (some ⟨eb7, eo7, none⟩) l.length c), (12, .int .i64 (l.length : Int)), (13, .bool (decide ((l.length : Int) = 0))), (14, .tuple #[.int .i64 ((wayS x7).1), .bool ((wayS x7).2)]), (15, .slice (some ⟨eb7, eo7, none⟩) l.length c), (16, .pointer (some ⟨eb7, eo7 + (0 : Int).toNat * 1, none⟩)), (17, str x7), (18, .tuple #[.int .i64 ((wayS x7).1), .bool ((wayS x7).2)]), (19, .int .i64 ((wayS x7).1)), (20, .bool ((wayS x7).2)), (21, .int .i64 ((wayS x7).1)), (22, .agg #[.int .i64 ((wayS x7).1), .int .i64 0]), (29, .bool ((decide (((wayS x7).1) = 2)) && (decide ((l.length : Int) = 2))))]) ?_ ?_
   ·refine (Bool.eq_false_or_eq_true (((wayS x7).2) && (decide ((l.length : Int) = 1)))).elim (fun hb44 => ?_) (fun hb44 => ?_)
    ·subst hM0
     have hk45 := hb44; try simp only [zz1, zz2, zz3, zz4, zz5, zz7, zz8, zz9, zza, zzb] at hk45
     refine op_on HE rfl rfl hb44 ?_
     refine o_ldI HE rfl HS rfl T.s3 hCd (j := 0) rfl rfl ?_; clear HE; intro a HE
     refine op_on HE rfl rfl hb44 ?_
     refine o_ldA HE rfl HS rfl T.a23 (.here .here) rfl ?_; clear HE; intro a HE
     refine op_on HE rfl rfl hb44 ?_
     refine o_callP HE rfl HS rfl rfl T.g41 (c_ruled 4 (⟨(wayS x7).1, 0⟩ : Rul) _ _ HS.sub) ?_
     clear HE HS; rintro _ w a HS rfl HE
     refine o_pick_t HE rfl rfl hb44 rfl ?_; clear HE; intro a HE
     exact ⟨HS, HE.cut ⟨by rw [hb44]; rfl, rfl, rfl, rfl, rfl, rfl, rfl, rfl, rfl, rfl, rfl, rfl, rfl, rfl, rfl, rfl, rfl, rfl, rfl, rfl, rfl, trivial⟩⟩
    ·subst hM0
     have hk46 := hb44; try simp only [zz1, zz2, zz3, zz4, zz5, zz7, zz8, zz9, zza, zzb] at hk46
     refine g_off HE rfl rfl rfl hb44 ?_; clear HE; intro a HE
     refine g_off HE rfl rfl rfl hb44 ?_; clear HE; intro a HE
     refine g_off HE rfl rfl rfl hb44 ?_; clear HE; intro a HE
     refine o_pick_f HE rfl rfl hb44 rfl ?_; clear HE; intro a HE
     exact ⟨HS, HE.cut ⟨by rw [hb44]; rfl, rfl, rfl, rfl, rfl, rfl, rfl, rfl, rfl, rfl, rfl, rfl, rfl, rfl, rfl, rfl, rfl, rfl, rfl, rfl, rfl, trivial⟩⟩
   clear HE HS; rintro a w ⟨HS, HE⟩; subst hM0
   refine o_assign HE rfl rfl ?_; clear HE; intro a HE
   refine hK _ _ ?_; clear hK K
   refine wp_ret ?_
   show Q .ret _ _
   refine ret hQ HE rfl (HE.res rfl .nil) ?_
   replace HS := HS.drop (M' := [_]) (sub_drop (sub_keep sub_nil))
   have e0 : w0S l = wayS x7 := by unfold w0S; rw [get0 ex7]
   have he : ruleS 4 P l = ((⟨⟨P.r0.way, P.r0.size⟩, ⟨P.r1.way, P.r1.size⟩, ⟨P.r2.way, P.r2.size⟩, ⟨P.r3.way, P.r3.size⟩, ⟨(wayS x7).1, 0⟩, P.time, P.note, P.loose, P.force⟩ : Pol), (((wayS x7).2) && (decide ((l.length : Int) = 1))) && (ruledB 4 ⟨(wayS x7).1, 0⟩)) := by
    unfold ruleS
    rw [if_neg (by omega), if_neg (by rw [e0]; omega), e0]
    rw [show decide ((l.length : Int) = 1) = decide (l.length = 1) from decide_eq_decide.2 (by omega)]
    rfl
   exact ⟨_, [(bp, Cells 26 [(0, .int .i64 P.r0.way), (1, .int .i64 P.r0.size), (2, .int .i64 P.r1.way), (3, .int .i64 P.r1.size), (4, .int .i64 P.r2.way), (5, .int .i64 P.r2.size), (6, .int .i64 P.r3.way), (7, .int .i64 P.r3.size), (8, .int .i64 ((wayS x7).1)), (9, .int .i64 0), (10, .int .i64 P.time), (11, .int .i64 P.note), (12, .bool P.loose), (13, .bool P.force)])], HS.stop (by simp), by rw [he] <;> rfl, by rw [he] <;> rfl⟩

/-! `incognito/policy.kinds$2` -/
set_option maxRecDepth 100000 in
set_option maxHeartbeats 4000000 in
theorem c_kTime (P : Pol) (l : List Bs) (A : Option Addr) (c : Nat) (bp : Nat) (bo : Nat) {W0 : World} {H0 : Heap} {L0 : List Nat} {M0 : List Chunk} (w0 : World) (G : Heap) (hS0 : St W0 H0 L0 G w0 ([(bp, Cells 26 [(0, .int .i64 P.r0.way), (1, .int .i64 P.r0.size), (2, .int .i64 P.r1.way), (3, .int .i64 P.r1.size), (4, .int .i64 P.r2.way), (5, .int .i64 P.r2.size), (6, .int .i64 P.r3.way), (7, .int .i64 P.r3.size), (8, .int .i64 P.r4.way), (9, .int .i64 P.r4.size), (10, .int .i64 P.time), (11, .int .i64 P.note), (12, .bool P.loose), (13, .bool P.force)])] :: M0)) (hR : Rd Knd.s G A l) (hc : l.length ≤ c) (hl : l.length ≤ 4294967281) (hls : ∀ x ∈ l, x.length ≤ 4294967280) (hCo : CellsAt G bo 0 [.func (.func 71) #[] #[]]) (hgw : CellsAt G 1 0 [str [107, 101, 101, 112], str [111, 114, 100, 105, 110, 97, 108], str [107, 101, 121, 101, 100], str [114, 97, 110, 107], str [100, 114, 111, 112]]):
  Calls Tryd.prog 73 #[.pointer (some ⟨bp, 0, none⟩), .slice A l.length c, .pointer (some ⟨bo, 0, none⟩)] w0 (X.Ends w0 G [bp] (fun v G' C' => v = .bool (timeS P l).2 ∧ C' = [(bp, Cells 26 (pcE (timeS P l).1))]) (fun _ _ _ => False)) := by
 refine enter Tryd.func73 rfl Tryd.ntmps73 rfl ?_
 intro Q hQ a HE
 have HS := St.start (C := [(bp, Cells 26 [(0, .int .i64 P.r0.way), (1, .int .i64 P.r0.size), (2, .int .i64 P.r1.way), (3, .int .i64 P.r1.size), (4, .int .i64 P.r2.way), (5, .int .i64 P.r2.size), (6, .int .i64 P.r3.way), (7, .int .i64 P.r3.size), (8, .int .i64 P.r4.way), (9, .int .i64 P.r4.size), (10, .int .i64 P.time), (11, .int .i64 P.note), (12, .bool P.loose), (13, .bool P.force)])]) hS0.sub (fun p hp => hS0.mem p (by simp only [List.flatten_cons, List.mem_append]; exact .inl hp)) (fun p hp => hS0.sep p (by simp only [List.flatten_cons, List.mem_append]; exact .inl hp)) (by simp [X.keys])
 change St w0 G [bp] G w0 _ at HS
 refine wp_seq_k (fun K hK => ?_); refine wp_region_lit ?_
 refine o_assign HE rfl rfl ?_; clear HE; intro a HE
 refine hK _ _ ?_; clear hK K
 refine wp_seq_k (fun K hK => ?_); refine wp_region_lit ?_
 refine o_move HE rfl rfl ?_; clear HE; intro a HE
 refine o_ldI HE rfl HS rfl T.s124 hCo (j := 0) rfl rfl ?_; clear HE; intro a HE
 refine o_move HE rfl rfl ?_; clear HE; intro a HE
 refine o_callP HE rfl HS rfl rfl T.g71 (c_one25 l _ _ 3 _ _ HS.sub hR (by omega) hgw) ?_
 clear HE HS; rintro _ w a HS rfl HE
 refine o_move HE rfl rfl ?_; clear HE; intro a HE
 refine o_extract HE rfl rfl rfl ?_; clear HE; intro a HE
 refine o_extract HE rfl rfl rfl ?_; clear HE; intro a HE
 refine o_nil HE rfl rfl ?_; clear HE; intro a HE
 refine o_fld HE rfl rfl T.f26_1 ?_; clear HE; intro a HE
 refine o_st HE HS rfl rfl rfl T.s3 (.here .here) rfl ?_; clear HS; intro w HS
 refine o_assign HE rfl rfl ?_; clear HE; intro a HE
 refine hK _ _ ?_; clear hK K
 refine wp_ret ?_
 show Q .ret _ _
 refine ret hQ HE rfl (HE.res rfl .nil) ?_
 replace HS := HS.conv (L2 := [(0, _), (1, _), (2, _), (3, _), (4, _), (5, _), (6, _), (7, _), (8, _), (9, _), (10, _), (11, _), (12, _), (13, _)]) (.here .here) ⟨rfl, rfl, rfl, rfl, rfl, rfl, rfl, rfl, rfl, rfl, rfl, rfl, rfl, rfl, trivial⟩
 have he : timeS P l = ((⟨⟨P.r0.way, P.r0.size⟩, ⟨P.r1.way, P.r1.size⟩, ⟨P.r2.way, P.r2.size⟩, ⟨P.r3.way, P.r3.size⟩, ⟨P.r4.way, P.r4.size⟩, (oneS l 3).1, P.note, P.loose, P.force⟩ : Pol), (oneS l 3).2) := rfl
 exact ⟨_, [(bp, Cells 26 [(0, .int .i64 P.r0.way), (1, .int .i64 P.r0.size), (2, .int .i64 P.r1.way), (3, .int .i64 P.r1.size), (4, .int .i64 P.r2.way), (5, .int .i64 P.r2.size), (6, .int .i64 P.r3.way), (7, .int .i64 P.r3.size), (8, .int .i64 P.r4.way), (9, .int .i64 P.r4.size), (10, .int .i64 ((oneS l 3).1)), (11, .int .i64 P.note), (12, .bool P.loose), (13, .bool P.force)])], HS.stop (by simp), by rw [he] <;> rfl, by rw [he] <;> rfl⟩

/-! `incognito/policy.kinds$3` -/
set_option maxRecDepth 100000 in
set_option maxHeartbeats 4000000 in
theorem c_kNote (P : Pol) (l : List Bs) (A : Option Addr) (c : Nat) (bp : Nat) (bo : Nat) {W0 : World} {H0 : Heap} {L0 : List Nat} {M0 : List Chunk} (w0 : World) (G : Heap) (hS0 : St W0 H0 L0 G w0 ([(bp, Cells 26 [(0, .int .i64 P.r0.way), (1, .int .i64 P.r0.size), (2, .int .i64 P.r1.way), (3, .int .i64 P.r1.size), (4, .int .i64 P.r2.way), (5, .int .i64 P.r2.size), (6, .int .i64 P.r3.way), (7, .int .i64 P.r3.size), (8, .int .i64 P.r4.way), (9, .int .i64 P.r4.size), (10, .int .i64 P.time), (11, .int .i64 P.note), (12, .bool P.loose), (13, .bool P.force)])] :: M0)) (hR : Rd Knd.s G A l) (hc : l.length ≤ c) (hl : l.length ≤ 4294967281) (hls : ∀ x ∈ l, x.length ≤ 4294967280) (hCo : CellsAt G bo 0 [.func (.func 71) #[] #[]]) (hgw : CellsAt G 1 0 [str [107, 101, 101, 112], str [111, 114, 100, 105, 110, 97, 108], str [107, 101, 121, 101, 100], str [114, 97, 110, 107], str [100, 114, 111, 112]]):
  Calls Tryd.prog 74 #[.pointer (some ⟨bp, 0, none⟩), .slice A l.length c, .pointer (some ⟨bo, 0, none⟩)] w0 (X.Ends w0 G [bp] (fun v G' C' => v = .bool (noteP P l).2 ∧ C' = [(bp, Cells 26 (pcE (noteP P l).1))]) (fun _ _ _ => False)) := by
 refine enter Tryd.func74 rfl Tryd.ntmps74 rfl ?_
 intro Q hQ a HE
 have HS := St.start (C := [(bp, Cells 26 [(0, .int .i64 P.r0.way), (1, .int .i64 P.r0.size), (2, .int .i64 P.r1.way), (3, .int .i64 P.r1.size), (4, .int .i64 P.r2.way), (5, .int .i64 P.r2.size), (6, .int .i64 P.r3.way), (7, .int .i64 P.r3.size), (8, .int .i64 P.r4.way), (9, .int .i64 P.r4.size), (10, .int .i64 P.time), (11, .int .i64 P.note), (12, .bool P.loose), (13, .bool P.force)])]) hS0.sub (fun p hp => hS0.mem p (by simp only [List.flatten_cons, List.mem_append]; exact .inl hp)) (fun p hp => hS0.sep p (by simp only [List.flatten_cons, List.mem_append]; exact .inl hp)) (by simp [X.keys])
 change St w0 G [bp] G w0 _ at HS
 refine wp_seq_k (fun K hK => ?_); refine wp_region_lit ?_
 refine o_assign HE rfl rfl ?_; clear HE; intro a HE
 refine hK _ _ ?_; clear hK K
 refine wp_seq_k (fun K hK => ?_); refine wp_region_lit ?_
 refine o_move HE rfl rfl ?_; clear HE; intro a HE
 refine o_ldI HE rfl HS rfl T.s124 hCo (j := 0) rfl rfl ?_; clear HE; intro a HE
 refine o_move HE rfl rfl ?_; clear HE; intro a HE
 refine o_callP HE rfl HS rfl rfl T.g71 (c_one25 l _ _ 4 _ _ HS.sub hR (by omega) hgw) ?_
 clear HE HS; rintro _ w a HS rfl HE
 refine o_move HE rfl rfl ?_; clear HE; intro a HE
 refine o_extract HE rfl rfl rfl ?_; clear HE; intro a HE
 refine o_extract HE rfl rfl rfl ?_; clear HE; intro a HE
 refine o_nil HE rfl rfl ?_; clear HE; intro a HE
 refine o_fld HE rfl rfl T.f26_2 ?_; clear HE; intro a HE
 refine o_st HE HS rfl rfl rfl T.s3 (.here .here) rfl ?_; clear HS; intro w HS
 refine o_assign HE rfl rfl ?_; clear HE; intro a HE
 refine hK _ _ ?_; clear hK K
 refine wp_ret ?_
 show Q .ret _ _
 refine ret hQ HE rfl (HE.res rfl .nil) ?_
 replace HS := HS.conv (L2 := [(0, _), (1, _), (2, _), (3, _), (4, _), (5, _), (6, _), (7, _), (8, _), (9, _), (10, _), (11, _), (12, _), (13, _)]) (.here .here) ⟨rfl, rfl, rfl, rfl, rfl, rfl, rfl, rfl, rfl, rfl, rfl, rfl, rfl, rfl, trivial⟩
 have he : noteP P l = ((⟨⟨P.r0.way, P.r0.size⟩, ⟨P.r1.way, P.r1.size⟩, ⟨P.r2.way, P.r2.size⟩, ⟨P.r3.way, P.r3.size⟩, ⟨P.r4.way, P.r4.size⟩, P.time, (oneS l 4).1, P.loose, P.force⟩ : Pol), (oneS l 4).2) := rfl
 exact ⟨_, [(bp, Cells 26 [(0, .int .i64 P.r0.way), (1, .int .i64 P.r0.size), (2, .int .i64 P.r1.way), (3, .int .i64 P.r1.size), (4, .int .i64 P.r2.way), (5, .int .i64 P.r2.size), (6, .int .i64 P.r3.way), (7, .int .i64 P.r3.size), (8, .int .i64 P.r4.way), (9, .int .i64 P.r4.size), (10, .int .i64 P.time), (11, .int .i64 ((oneS l 4).1)), (12, .bool P.loose), (13, .bool P.force)])], HS.stop (by simp), by rw [he] <;> rfl, by rw [he] <;> rfl⟩

/-! `incognito/policy.kinds$4` -/
set_option maxRecDepth 100000 in
set_option maxHeartbeats 4000000 in
theorem c_kLoose (P : Pol) (l : List Bs) (A : Option Addr) (c : Nat) (bp : Nat) {W0 : World} {H0 : Heap} {L0 : List Nat} {M0 : List Chunk} (w0 : World) (G : Heap) (hS0 : St W0 H0 L0 G w0 ([(bp, Cells 26 [(0, .int .i64 P.r0.way), (1, .int .i64 P.r0.size), (2, .int .i64 P.r1.way), (3, .int .i64 P.r1.size), (4, .int .i64 P.r2.way), (5, .int .i64 P.r2.size), (6, .int .i64 P.r3.way), (7, .int .i64 P.r3.size), (8, .int .i64 P.r4.way), (9, .int .i64 P.r4.size), (10, .int .i64 P.time), (11, .int .i64 P.note), (12, .bool P.loose), (13, .bool P.force)])] :: M0)) (hR : Rd Knd.s G A l) (hc : l.length ≤ c) (hl : l.length ≤ 4294967281) (hls : ∀ x ∈ l, x.length ≤ 4294967280):
  Calls Tryd.prog 75 #[.pointer (some ⟨bp, 0, none⟩), .slice A l.length c] w0 (X.Ends w0 G [bp] (fun v G' C' => v = .bool (looseS P l).2 ∧ C' = [(bp, Cells 26 (pcE (looseS P l).1))]) (fun _ _ _ => False)) := by
 refine enter Tryd.func75 rfl Tryd.ntmps75 rfl ?_
 intro Q hQ a HE
 have HS := St.start (C := [(bp, Cells 26 [(0, .int .i64 P.r0.way), (1, .int .i64 P.r0.size), (2, .int .i64 P.r1.way), (3, .int .i64 P.r1.size), (4, .int .i64 P.r2.way), (5, .int .i64 P.r2.size), (6, .int .i64 P.r3.way), (7, .int .i64 P.r3.size), (8, .int .i64 P.r4.way), (9, .int .i64 P.r4.size), (10, .int .i64 P.time), (11, .int .i64 P.note), (12, .bool P.loose), (13, .bool P.force)])]) hS0.sub (fun p hp => hS0.mem p (by simp only [List.flatten_cons, List.mem_append]; exact .inl hp)) (fun p hp => hS0.sep p (by simp only [List.flatten_cons, List.mem_append]; exact .inl hp)) (by simp [X.keys])
 change St w0 G [bp] G w0 _ at HS
 refine wp_seq_k (fun K hK => ?_); refine wp_region_lit ?_
 refine o_assign HE rfl rfl ?_; clear HE; intro a HE
 refine hK _ _ ?_; clear hK K
 refine wp_seq_k (fun K hK => ?_); refine wp_region_lit ?_
 refine o_move HE rfl rfl ?_; clear HE; intro a HE
 refine o_nil HE rfl rfl ?_; clear HE; intro a HE
 refine o_fld HE rfl rfl T.f26_3 ?_; clear HE; intro a HE
 refine o_st HE HS rfl rfl rfl T.s4 (.here .here) rfl ?_; clear HS; intro w HS
 refine hK _ _ ?_; clear hK K
 refine wp_seq_k (fun K hK => ?_); refine wp_region_lit ?_
 refine o_move HE rfl rfl ?_; clear HE; intro a HE
 refine o_lenL HE rfl rfl Tryd.underlying29 ?_; clear HE; intro a HE
 refine o_eqI HE rfl rfl rfl ?_; clear HE; intro a HE
 refine o_assign HE rfl rfl ?_; clear HE; intro a HE
 refine hK _ _ ?_; clear hK K
 refine wp_ret ?_
 show Q .ret _ _
 refine ret hQ HE rfl (HE.res rfl .nil) ?_
 replace HS := HS.conv (L2 := [(0, _), (1, _), (2, _), (3, _), (4, _), (5, _), (6, _), (7, _), (8, _), (9, _), (10, _), (11, _), (12, _), (13, _)]) (.here .here) ⟨rfl, rfl, rfl, rfl, rfl, rfl, rfl, rfl, rfl, rfl, rfl, rfl, rfl, rfl, trivial⟩
 have he : looseS P l = ((⟨⟨P.r0.way, P.r0.size⟩, ⟨P.r1.way, P.r1.size⟩, ⟨P.r2.way, P.r2.size⟩, ⟨P.r3.way, P.r3.size⟩, ⟨P.r4.way, P.r4.size⟩, P.time, P.note, true, P.force⟩ : Pol), decide ((l.length : Int) = 0)) := rfl
 exact ⟨_, [(bp, Cells 26 [(0, .int .i64 P.r0.way), (1, .int .i64 P.r0.size), (2, .int .i64 P.r1.way), (3, .int .i64 P.r1.size), (4, .int .i64 P.r2.way), (5, .int .i64 P.r2.size), (6, .int .i64 P.r3.way), (7, .int .i64 P.r3.size), (8, .int .i64 P.r4.way), (9, .int .i64 P.r4.size), (10, .int .i64 P.time), (11, .int .i64 P.note), (12, .bool true), (13, .bool P.force)])], HS.stop (by simp), by rw [he] <;> rfl, by rw [he] <;> rfl⟩

/-! `incognito/policy.kinds$5` -/
set_option maxRecDepth 100000 in
set_option maxHeartbeats 4000000 in
theorem c_kForce (P : Pol) (l : List Bs) (A : Option Addr) (c : Nat) (bp : Nat) {W0 : World} {H0 : Heap} {L0 : List Nat} {M0 : List Chunk} (w0 : World) (G : Heap) (hS0 : St W0 H0 L0 G w0 ([(bp, Cells 26 [(0, .int .i64 P.r0.way), (1, .int .i64 P.r0.size), (2, .int .i64 P.r1.way), (3, .int .i64 P.r1.size), (4, .int .i64 P.r2.way), (5, .int .i64 P.r2.size), (6, .int .i64 P.r3.way), (7, .int .i64 P.r3.size), (8, .int .i64 P.r4.way), (9, .int .i64 P.r4.size), (10, .int .i64 P.time), (11, .int .i64 P.note), (12, .bool P.loose), (13, .bool P.force)])] :: M0)) (hR : Rd Knd.s G A l) (hc : l.length ≤ c) (hl : l.length ≤ 4294967281) (hls : ∀ x ∈ l, x.length ≤ 4294967280):
  Calls Tryd.prog 76 #[.pointer (some ⟨bp, 0, none⟩), .slice A l.length c] w0 (X.Ends w0 G [bp] (fun v G' C' => v = .bool (forceS P l).2 ∧ C' = [(bp, Cells 26 (pcE (forceS P l).1))]) (fun _ _ _ => False)) := by
 refine enter Tryd.func76 rfl Tryd.ntmps76 rfl ?_
 intro Q hQ a HE
 have HS := St.start (C := [(bp, Cells 26 [(0, .int .i64 P.r0.way), (1, .int .i64 P.r0.size), (2, .int .i64 P.r1.way), (3, .int .i64 P.r1.size), (4, .int .i64 P.r2.way), (5, .int .i64 P.r2.size), (6, .int .i64 P.r3.way), (7, .int .i64 P.r3.size), (8, .int .i64 P.r4.way), (9, .int .i64 P.r4.size), (10, .int .i64 P.time), (11, .int .i64 P.note), (12, .bool P.loose), (13, .bool P.force)])]) hS0.sub (fun p hp => hS0.mem p (by simp only [List.flatten_cons, List.mem_append]; exact .inl hp)) (fun p hp => hS0.sep p (by simp only [List.flatten_cons, List.mem_append]; exact .inl hp)) (by simp [X.keys])
 change St w0 G [bp] G w0 _ at HS
 refine wp_seq_k (fun K hK => ?_); refine wp_region_lit ?_
 refine o_assign HE rfl rfl ?_; clear HE; intro a HE
 refine hK _ _ ?_; clear hK K
 refine wp_seq_k (fun K hK => ?_); refine wp_region_lit ?_
 refine o_move HE rfl rfl ?_; clear HE; intro a HE
 refine o_nil HE rfl rfl ?_; clear HE; intro a HE
 refine o_fld HE rfl rfl T.f26_4 ?_; clear HE; intro a HE
 refine o_st HE HS rfl rfl rfl T.s4 (.here .here) rfl ?_; clear HS; intro w HS
 refine hK _ _ ?_; clear hK K
 refine wp_seq_k (fun K hK => ?_); refine wp_region_lit ?_
 refine o_move HE rfl rfl ?_; clear HE; intro a HE
 refine o_lenL HE rfl rfl Tryd.underlying29 ?_; clear HE; intro a HE
 refine o_eqI HE rfl rfl rfl ?_; clear HE; intro a HE
 refine o_assign HE rfl rfl ?_; clear HE; intro a HE
 refine hK _ _ ?_; clear hK K
 refine wp_ret ?_
 show Q .ret _ _
 refine ret hQ HE rfl (HE.res rfl .nil) ?_
 replace HS := HS.conv (L2 := [(0, _), (1, _), (2, _), (3, _), (4, _), (5, _), (6, _), (7, _), (8, _), (9, _), (10, _), (11, _), (12, _), (13, _)]) (.here .here) ⟨rfl, rfl, rfl, rfl, rfl, rfl, rfl, rfl, rfl, rfl, rfl, rfl, rfl, rfl, trivial⟩
 have he : forceS P l = ((⟨⟨P.r0.way, P.r0.size⟩, ⟨P.r1.way, P.r1.size⟩, ⟨P.r2.way, P.r2.size⟩, ⟨P.r3.way, P.r3.size⟩, ⟨P.r4.way, P.r4.size⟩, P.time, P.note, P.loose, true⟩ : Pol), decide ((l.length : Int) = 0)) := rfl
 exact ⟨_, [(bp, Cells 26 [(0, .int .i64 P.r0.way), (1, .int .i64 P.r0.size), (2, .int .i64 P.r1.way), (3, .int .i64 P.r1.size), (4, .int .i64 P.r2.way), (5, .int .i64 P.r2.size), (6, .int .i64 P.r3.way), (7, .int .i64 P.r3.size), (8, .int .i64 P.r4.way), (9, .int .i64 P.r4.size), (10, .int .i64 P.time), (11, .int .i64 P.note), (12, .bool P.loose), (13, .bool true)])], HS.stop (by simp), by rw [he] <;> rfl, by rw [he] <;> rfl⟩
end Go.Proofs.YtiinipcmghhacaaDoor.T10
