/- EventOne walked. -/
import Derived.Test.YtiinipcmghhacaaDoorF2
set_option linter.unusedVariables false
set_option linter.unusedSimpArgs false
namespace Go.Proofs.YtiinipcmghhacaaDoor.T10
open Go Go.Proofs.YtiinipcmghhacaaDoor.X
theorem T.g27 : goFn Tryd.prog 27 = true := by kernel_rfl
/-! `incognito/incognitolaw10.EventOne` -/
set_option maxRecDepth 100000 in
set_option maxHeartbeats 4000000 in
theorem law_EventOne (s : Bs) (w0 : World) (G : Heap) (hG : Sub G w0) (m8 : Int) (h8 : CellsAt G 8 0 [.int .i64 m8]) (hg0 : CellsAt G 3 0 [.int .i64 3, .int .i64 1, str []]) (hg1 : CellsAt G 6 0 [.int .i64 3, .int .i64 0, str []]) (hgm : CellsAt G 4 0 [str [], str [114, 101, 103], str [99, 97, 115], str [115, 101, 116], str [109, 97, 112], str [102, 105, 102, 111], str [115, 116, 97, 99, 107], str [108, 111, 99, 107], str [99, 111, 117, 110, 116], str [109, 97, 120], str [111, 109, 97, 112]]) (hgo : CellsAt G 5 0 [str [], str [119, 114, 105, 116, 101], str [114, 101, 97, 100], str [115, 119, 97, 112], str [97, 100, 100], str [100, 101, 108], str [104, 97, 115], str [112, 117, 116], str [103, 101, 116], str [112, 117, 115, 104], str [112, 111, 112], str [116, 97, 107, 101], str [102, 114, 101, 101], str [115, 99, 97, 110]]) (hgn : CellsAt G 2 0 [str [], str [105, 110, 118, 111, 107, 101], str [111, 107], str [102, 97, 105, 108], str [105, 110, 102, 111]]) (hT : TabG G 7 .u64 Lib.pow10Tab):
  Calls Tryd.prog 10 #[str s] w0 (Ret w0 G (fun v _ => v = .bool true)) := by
 refine enter Tryd.func10 rfl Tryd.ntmps10 rfl ?_
 intro Q hQ a HE
 have HS := St.start0 hG
 refine sr fun K hK => ?_
 refine rn 1 HE HS ?_; clear HE HS; intro a w HE HS
 apply hK; clear hK K
 refine wp_seq_k (fun K3 hK2 => ?_)
 refine sr fun K hK => ?_
 refine o_callP HE rfl HS rfl rfl T.g21 (c_wakes10 _ _ HS.sub m8 h8 hg0 hg1 hgm hgo hgn) ?_
 clear HE HS; rintro _ w a HS rfl HE
 refine rn 1 HE HS ?_; clear HE HS; intro a w HE HS
 apply hK; clear hK K
 refine cond HE rfl (fun h5r => ?_) (fun h5r => ?_)
 ·have h5 := nm h5r
  refine sr fun K hK => ?_
  refine rn 1 HE HS ?_; clear HE HS; intro a w HE HS
  apply hK; clear hK K
  refine rt hQ HE HS ?_
  exact absurd h5r (by decide)
 ·have h5 := nm h5r
  refine wp_skip ?_
  refine hK2 _ _ ?_; clear hK2
  refine wp_seq_k (fun K8 hK7 => ?_)
  refine sr fun K hK => ?_
  refine rn 3 HE HS ?_; clear HE HS; intro a w HE HS
  apply hK; clear hK K
  refine cond HE rfl (fun h10r => ?_) (fun h10r => ?_)
  ·have h10 := nm h10r
   refine sr fun K hK => ?_
   refine rn 1 HE HS ?_; clear HE HS; intro a w HE HS
   apply hK; clear hK K
   refine rt hQ HE HS ?_
   show _ = _
   rfl
  ·have h10 := nm h10r
   refine wp_skip ?_
   refine hK7 _ _ ?_; clear hK7
   refine sr fun K hK => ?_
   refine rn 1 HE HS ?_; clear HE HS; intro a w HE HS
   refine o_call HE rfl HS rfl rfl T.g22 (c_Parse10 s _ _ HS.sub m8 h8 hg0 hg1 hgm hgo hgn (by first | omega | (simp; done) | (simp; omega) | (have := note_len s; omega))) ?_
   clear HE HS; rintro _ G12 w a HS hle12 ⟨vA12, vc12, vB12, vd12, rfl, hap12, hA12, hbp12, hB12⟩ HE
   replace h8 := h8.le hle12
   replace hg0 := hg0.le hle12
   replace hg1 := hg1.le hle12
   replace hgm := hgm.le hle12
   replace hgo := hgo.le hle12
   replace hgn := hgn.le hle12
   replace hT := hT.le hle12
   refine rn 3 HE HS ?_; clear HE HS; intro a w HE HS
   refine o_allocZ HE rfl HS ?_; clear HE HS; intro B3 w a HS HE
   refine rn 2 HE HS ?_; clear HE HS; intro a w HE HS
   apply hK; clear hK K
   refine wp_seq_k (fun K15 hK14 => ?_)
   refine sr fun K hK => ?_
   refine rn 2 HE HS ?_; clear HE HS; intro a w HE HS
   apply hK; clear hK K
   refine cond HE rfl (fun h17r => ?_) (fun h17r => ?_)
   ·have h17 := nm h17r
    refine sr fun K hK => ?_
    refine rn 3 HE HS ?_; clear HE HS; intro a w HE HS
    refine cutG 3 22 (.bool ((decide (((parseE s).2) = 2)) || (decide (((parseE s).2) = 3)))) HE HS ?_ ?_
    ·refine bsp HE (t := 19) rfl (fun hb18 => ?_) (fun hb18 => ?_)
     ·skip
      refine rn 3 HE HS ?_; clear HE HS; intro a w HE HS
      exact ⟨HS, HE.cutT (by rw [hb18] <;> rfl)⟩
     ·have hk19 := nm hb18
      refine rn 3 HE HS ?_; clear HE HS; intro a w HE HS
      exact ⟨HS, HE.cutT (by rw [hb18] <;> rfl)⟩
    clear HE HS; intro a w HE HS
    refine rn 1 HE HS ?_; clear HE HS; intro a w HE HS
    refine cutG 4 27 (.bool (((decide (((parseE s).2) = 2)) || (decide (((parseE s).2) = 3))) && (decide (((parseE s).1) = (⟨0, (⟨0, 0, []⟩ : Val), 0, 0, (⟨0, 0, []⟩ : Val), 0, [], [], false, []⟩ : Evt))))) HE HS ?_ ?_
    ·refine bsp HE (t := 23) rfl (fun hb20 => ?_) (fun hb20 => ?_)
     ·have hk21 := nm hb20
      refine rn 1 HE HS ?_; clear HE HS; intro a w HE HS
      refine op_on HE rfl rfl hb20 ?_
      refine o_build (cs := #[.int .i64 0, .int .i64 0, .int .i64 0, str [], .int .i64 0, .int .i64 0, .int .i64 0, .int .i64 0, str [], .int .i64 0, .slice none 0 0, .slice none 0 0, .bool false, str []]) HE rfl rfl (by kernel_rfl) ?_; clear HE; intro a HE
      refine op_on HE rfl rfl hb20 ?_
      refine o_callP HE rfl HS rfl rfl T.g24 (c_SameE ((parseE s).1) (⟨0, (⟨0, 0, []⟩ : Val), 0, 0, (⟨0, 0, []⟩ : Val), 0, [], [], false, []⟩ : Evt) _ _ _ _ _ _ _ _ _ _ HS.sub hA12 hB12 (by first | omega | (simp; done) | exact parse_args (by first | omega | (simp; omega)) | exact parse_out (by first | omega | (simp; omega))) (by first | omega | (simp; done) | exact parse_args (by first | omega | (simp; omega)) | exact parse_out (by first | omega | (simp; omega))) Rd.nil Rd.nil (by first | omega | (simp; done) | exact parse_args (by first | omega | (simp; omega)) | exact parse_out (by first | omega | (simp; omega))) (by first | omega | (simp; done) | exact parse_args (by first | omega | (simp; omega)) | exact parse_out (by first | omega | (simp; omega)))) ?_
      clear HE HS; rintro _ w a HS rfl HE
      refine rn 1 HE HS ?_; clear HE HS; intro a w HE HS
      exact ⟨HS, HE.cutT (by rw [hb20] <;> rfl)⟩
     ·skip
      refine rn 4 HE HS ?_; clear HE HS; intro a w HE HS
      exact ⟨HS, HE.cutT (by rw [hb20] <;> rfl)⟩
    clear HE HS; intro a w HE HS
    refine rn 1 HE HS ?_; clear HE HS; intro a w HE HS
    apply hK; clear hK K
    refine rt hQ HE HS ?_
    show _ = _
    simp only [packed, Value.bool.injEq]
    obtain ⟨h23, h0⟩ := parseE_23 (s := s) (by simpa using h17)
    rw [h0]
    rcases h23 with h_9 | h_9 <;> simp [h_9, E0]
   ·have h17 := nm h17r
    refine wp_skip ?_
    refine hK14 _ _ ?_; clear hK14
    refine sr fun K hK => ?_
    refine rn 1 HE HS ?_; clear HE HS; intro a w HE HS
    have hwe : ((parseE s).1).Wf := parseE_wf (s := s) (by omega)
    have hpo := (parseE_len s).2
    refine o_callP HE rfl HS rfl rfl T.g28 (c_rightE ((parseE s).1) _ _ _ _ _ _ HS.sub hg0 hg1 hA12 hB12 (by first | assumption | exact hwe)) ?_
    clear HE HS; rintro _ w a HS rfl HE
    refine rn 1 HE HS ?_; clear HE HS; intro a w HE HS
    refine cutG 5 35 (.bool ((rightE ((parseE s).1)) && ((printE ((parseE s).1)) == s))) HE HS ?_ ?_
    ·refine bsp HE (t := 30) rfl (fun hb23 => ?_) (fun hb23 => ?_)
     ·have hk24 := nm hb23
      refine rn 1 HE HS ?_; clear HE HS; intro a w HE HS
      refine op_on HE rfl rfl hb23 ?_
      have hwe : ((parseE s).1).Wf := parseE_wf (s := s) (by omega)
      have hpo := (parseE_len s).2
      refine o_callP HE rfl HS rfl rfl T.g27 (c_PrintE ((parseE s).1) _ _ _ _ _ _ HS.sub hg0 hg1 hgm hgo hgn hT hA12 hB12 (by first | assumption | exact hwe) (by first | assumption | omega)) ?_
      clear HE HS; rintro _ w a HS rfl HE
      refine rn 3 HE HS ?_; clear HE HS; intro a w HE HS
      exact ⟨HS, HE.cutT (by rw [hb23] <;> rfl)⟩
     ·skip
      refine rn 5 HE HS ?_; clear HE HS; intro a w HE HS
      exact ⟨HS, HE.cutT (by rw [hb23] <;> rfl)⟩
    clear HE HS; intro a w HE HS
    refine rn 1 HE HS ?_; clear HE HS; intro a w HE HS
    apply hK; clear hK K
    refine rt hQ HE HS ?_
    show _ = _
    simp only [packed, Value.bool.injEq]
    obtain ⟨h23, h0⟩ := print_parseE (s := s) (by simpa using h17)
    rw [h23, h0]
    simp
end Go.Proofs.YtiinipcmghhacaaDoor.T10
