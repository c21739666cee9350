/- The laws of chapter 11 walked. -/
import Derived.Test.YtiinipcmghhacaaDoorE1
set_option linter.unusedVariables false
set_option linter.unusedSimpArgs false
namespace Go.Proofs.YtiinipcmghhacaaDoor.T10
open Go Go.Proofs.YtiinipcmghhacaaDoor.X
theorem T.f33_1 : fieldOff Tryd.prog 33 1 = some 1 := by kernel_rfl
instance : FO Tryd.prog 33 1 1 := ⟨T.f33_1⟩
theorem T.g29 : goFn Tryd.prog 29 = true := by kernel_rfl
theorem T.g30 : goFn Tryd.prog 30 = true := by kernel_rfl
theorem T.g31 : goFn Tryd.prog 31 = true := by kernel_rfl
theorem T.g32 : goFn Tryd.prog 32 = true := by kernel_rfl
theorem T.q33 : flatT Tryd.prog 33 = some [.int .i64, .int .i64] := by kernel_rfl
/-! `incognito/incognitolaw11.wakes` -/
set_option maxRecDepth 100000 in
set_option maxHeartbeats 4000000 in
theorem c_wakes11  (w0 : World) (G : Heap) (hG : Sub G w0) (m8 : Int) (h8 : CellsAt G 8 0 [.int .i64 m8]) (hg0 : CellsAt G 3 0 [.int .i64 3, .int .i64 1, str []]) (hg1 : CellsAt G 6 0 [.int .i64 3, .int .i64 0, str []]) (hgm : CellsAt G 4 0 [str [], str [114, 101, 103], str [99, 97, 115], str [115, 101, 116], str [109, 97, 112], str [102, 105, 102, 111], str [115, 116, 97, 99, 107], str [108, 111, 99, 107], str [99, 111, 117, 110, 116], str [109, 97, 120], str [111, 109, 97, 112]]) (hgo : CellsAt G 5 0 [str [], str [119, 114, 105, 116, 101], str [114, 101, 97, 100], str [115, 119, 97, 112], str [97, 100, 100], str [100, 101, 108], str [104, 97, 115], str [112, 117, 116], str [103, 101, 116], str [112, 117, 115, 104], str [112, 111, 112], str [116, 97, 107, 101], str [102, 114, 101, 101], str [115, 99, 97, 110]]) (hgn : CellsAt G 2 0 [str [], str [105, 110, 118, 111, 107, 101], str [111, 107], str [102, 97, 105, 108], str [105, 110, 102, 111]]):
  Calls Tryd.prog 29 #[] w0 (Ret w0 G (fun v _ => v = .bool true)) := by
 refine enter Tryd.func29 rfl Tryd.ntmps29 rfl ?_
 intro Q hQ a HE
 have HS := St.start0 hG
 refine sr fun K hK => ?_
 refine rn 1 HE HS ?_; clear HE HS; intro a w HE HS
 apply hK; clear hK K
 refine sr fun K hK => ?_
 refine o_call HE rfl HS rfl rfl T.g30 (c_ParseH [] _ _ HS.sub m8 h8 hg0 hg1 hgm hgo hgn (by first | omega | (simp; done) | (simp; omega))) ?_
 clear HE HS; rintro _ G2 w a HS hle2 ⟨vA2, vc2, rfl, hcp2, hR2⟩ HE
 replace h8 := h8.le hle2
 replace hg0 := hg0.le hle2
 replace hg1 := hg1.le hle2
 replace hgm := hgm.le hle2
 replace hgo := hgo.le hle2
 replace hgn := hgn.le hle2
 refine rn 3 HE HS ?_; clear HE HS; intro a w HE HS
 refine o_allocZ HE rfl HS ?_; clear HE HS; intro B2 w a HS HE
 refine rn 2 HE HS ?_; clear HE HS; intro a w HE HS
 apply hK; clear hK K
 refine sr fun K hK => ?_
 refine o_call HE rfl HS rfl rfl T.g30 (c_ParseH [53, 32, 97, 32, 111, 107] _ _ HS.sub m8 h8 hg0 hg1 hgm hgo hgn (by first | omega | (simp; done) | (simp; omega))) ?_
 clear HE HS; rintro _ G4 w a HS hle4 ⟨vA4, vc4, rfl, hcp4, hR4⟩ HE
 replace h8 := h8.le hle4
 replace hg0 := hg0.le hle4
 replace hg1 := hg1.le hle4
 replace hgm := hgm.le hle4
 replace hgo := hgo.le hle4
 replace hgn := hgn.le hle4
 replace hR2 := hR2.le hle4
 refine rn 3 HE HS ?_; clear HE HS; intro a w HE HS
 refine o_allocZ HE rfl HS ?_; clear HE HS; intro B4 w a HS HE
 refine rn 2 HE HS ?_; clear HE HS; intro a w HE HS
 apply hK; clear hK K
 refine sr fun K hK => ?_
 refine rn 1 HE HS ?_; clear HE HS; intro a w HE HS
 refine o_build (cs := #[.int .i64 0, .int .i64 0]) HE rfl rfl (by kernel_rfl) ?_; clear HE; intro a HE
 refine o_eqA (b := decide (((histP []).2.1) = 0) && (decide (((histP []).2.2) = 0) && true)) HE rfl rfl rfl T.q33 rfl rfl ?_; clear HE; intro a HE
 refine rn 1 HE HS ?_; clear HE HS; intro a w HE HS
 refine cutG 4 20 (.bool ((decide (((histP []).2.1) = 0) && (decide (((histP []).2.2) = 0) && true)) && (decide (((histP []).1.length : Int) = 0)))) HE HS ?_ ?_
 ·refine bsp HE (t := 16) rfl (fun hb6 => ?_) (fun hb6 => ?_)
  ·have hk7 := nm hb6
   refine rn 4 HE HS ?_; clear HE HS; intro a w HE HS
   exact ⟨HS, HE.cutT (by rw [hb6] <;> rfl)⟩
  ·skip
   refine rn 4 HE HS ?_; clear HE HS; intro a w HE HS
   exact ⟨HS, HE.cutT (by rw [hb6] <;> rfl)⟩
 clear HE HS; intro a w HE HS
 refine rn 1 HE HS ?_; clear HE HS; intro a w HE HS
 refine cutG 4 25 (.bool (((decide (((histP []).2.1) = 0) && (decide (((histP []).2.2) = 0) && true)) && (decide (((histP []).1.length : Int) = 0))) && (decide (((histP [53, 32, 97, 32, 111, 107]).2.1) = 2) && (decide (((histP [53, 32, 97, 32, 111, 107]).2.2) = 1) && true)))) HE HS ?_ ?_
 ·refine bsp HE (t := 21) rfl (fun hb8 => ?_) (fun hb8 => ?_)
  ·have hk9 := nm hb8
   refine rn 1 HE HS ?_; clear HE HS; intro a w HE HS
   refine op_on HE rfl rfl hb8 ?_
   refine o_build (cs := #[.int .i64 2, .int .i64 1]) HE rfl rfl (by kernel_rfl) ?_; clear HE; intro a HE
   refine op_on HE rfl rfl hb8 ?_
   refine o_eqA (b := decide (((histP [53, 32, 97, 32, 111, 107]).2.1) = 2) && (decide (((histP [53, 32, 97, 32, 111, 107]).2.2) = 1) && true)) HE rfl rfl rfl T.q33 rfl rfl ?_; clear HE; intro a HE
   refine rn 1 HE HS ?_; clear HE HS; intro a w HE HS
   exact ⟨HS, HE.cutT (by rw [hb8] <;> rfl)⟩
  ·skip
   refine rn 4 HE HS ?_; clear HE HS; intro a w HE HS
   exact ⟨HS, HE.cutT (by rw [hb8] <;> rfl)⟩
 clear HE HS; intro a w HE HS
 refine rn 1 HE HS ?_; clear HE HS; intro a w HE HS
 apply hK; clear hK K
 refine rt hQ HE HS ?_
 show _ = _
 simp only [packed, Value.bool.injEq]
 decide +kernel

/-! `incognito/incognitolaw11.HistParses` -/
set_option maxRecDepth 100000 in
set_option maxHeartbeats 4000000 in
theorem law_HistParses (t : Bs) (w0 : World) (G : Heap) (hG : Sub G w0) (m8 : Int) (h8 : CellsAt G 8 0 [.int .i64 m8]) (hg0 : CellsAt G 3 0 [.int .i64 3, .int .i64 1, str []]) (hg1 : CellsAt G 6 0 [.int .i64 3, .int .i64 0, str []]) (hgm : CellsAt G 4 0 [str [], str [114, 101, 103], str [99, 97, 115], str [115, 101, 116], str [109, 97, 112], str [102, 105, 102, 111], str [115, 116, 97, 99, 107], str [108, 111, 99, 107], str [99, 111, 117, 110, 116], str [109, 97, 120], str [111, 109, 97, 112]]) (hgo : CellsAt G 5 0 [str [], str [119, 114, 105, 116, 101], str [114, 101, 97, 100], str [115, 119, 97, 112], str [97, 100, 100], str [100, 101, 108], str [104, 97, 115], str [112, 117, 116], str [103, 101, 116], str [112, 117, 115, 104], str [112, 111, 112], str [116, 97, 107, 101], str [102, 114, 101, 101], str [115, 99, 97, 110]]) (hgn : CellsAt G 2 0 [str [], str [105, 110, 118, 111, 107, 101], str [111, 107], str [102, 97, 105, 108], str [105, 110, 102, 111]]):
  Calls Tryd.prog 11 #[str t] w0 (Ret w0 G (fun v _ => v = .bool true)) := by
 refine enter Tryd.func11 rfl Tryd.ntmps11 rfl ?_
 intro Q hQ a HE
 have HS := St.start0 hG
 refine sr fun K hK => ?_
 refine rn 1 HE HS ?_; clear HE HS; intro a w HE HS
 apply hK; clear hK K
 refine wp_seq_k (fun K3 hK2 => ?_)
 refine sr fun K hK => ?_
 refine o_callP HE rfl HS rfl rfl T.g29 (c_wakes11 _ _ HS.sub m8 h8 hg0 hg1 hgm hgo hgn) ?_
 clear HE HS; rintro _ w a HS rfl HE
 refine rn 1 HE HS ?_; clear HE HS; intro a w HE HS
 apply hK; clear hK K
 refine cond HE rfl (fun h5r => ?_) (fun h5r => ?_)
 ·have h5 := nm h5r
  refine sr fun K hK => ?_
  refine rn 1 HE HS ?_; clear HE HS; intro a w HE HS
  apply hK; clear hK K
  refine rt hQ HE HS ?_
  exact absurd h5r (by decide)
 ·have h5 := nm h5r
  refine wp_skip ?_
  refine hK2 _ _ ?_; clear hK2
  refine wp_seq_k (fun K8 hK7 => ?_)
  refine sr fun K hK => ?_
  refine rn 3 HE HS ?_; clear HE HS; intro a w HE HS
  apply hK; clear hK K
  refine cond HE rfl (fun h10r => ?_) (fun h10r => ?_)
  ·have h10 := nm h10r
   refine sr fun K hK => ?_
   refine rn 1 HE HS ?_; clear HE HS; intro a w HE HS
   apply hK; clear hK K
   refine rt hQ HE HS ?_
   show _ = _
   rfl
  ·have h10 := nm h10r
   refine wp_skip ?_
   refine hK7 _ _ ?_; clear hK7
   refine sr fun K hK => ?_
   refine rn 1 HE HS ?_; clear HE HS; intro a w HE HS
   refine o_call HE rfl HS rfl rfl T.g30 (c_ParseH t _ _ HS.sub m8 h8 hg0 hg1 hgm hgo hgn (by first | omega | (simp; done) | (simp; omega))) ?_
   clear HE HS; rintro _ G12 w a HS hle12 ⟨vA12, vc12, rfl, hcp12, hR12⟩ HE
   replace h8 := h8.le hle12
   replace hg0 := hg0.le hle12
   replace hg1 := hg1.le hle12
   replace hgm := hgm.le hle12
   replace hgo := hgo.le hle12
   replace hgn := hgn.le hle12
   refine rn 3 HE HS ?_; clear HE HS; intro a w HE HS
   refine o_allocZ HE rfl HS ?_; clear HE HS; intro B4 w a HS HE
   refine rn 2 HE HS ?_; clear HE HS; intro a w HE HS
   apply hK; clear hK K
   refine sr fun K hK => ?_
   refine rn 1 HE HS ?_; clear HE HS; intro a w HE HS
   refine o_call HE rfl HS rfl rfl T.g31 (c_ParseH11 t _ _ HS.sub (by first | omega | (simp; done) | (simp; omega))) ?_
   clear HE HS; rintro _ G14 w a HS hle14 ⟨vA14, vc14, rfl, hcp14, hR14⟩ HE
   replace h8 := h8.le hle14
   replace hg0 := hg0.le hle14
   replace hg1 := hg1.le hle14
   replace hgm := hgm.le hle14
   replace hgo := hgo.le hle14
   replace hgn := hgn.le hle14
   replace hR12 := hR12.le hle14
   refine rn 7 HE HS ?_; clear HE HS; intro a w HE HS
   apply hK; clear hK K
   refine sr fun K hK => ?_
   refine rn 5 HE HS ?_; clear HE HS; intro a w HE HS
   refine cutG 5 33 (.bool ((decide (((histP t).2.1) = ((histP t).2.1))) && (decide (((histP t).2.2) = ((histP t).2.2))))) HE HS ?_ ?_
   ·refine bsp HE (t := 28) rfl (fun hb16 => ?_) (fun hb16 => ?_)
    ·have hk17 := nm hb16
     refine rn 5 HE HS ?_; clear HE HS; intro a w HE HS
     exact ⟨HS, HE.cutT (by rw [hb16] <;> rfl)⟩
    ·skip
     refine rn 5 HE HS ?_; clear HE HS; intro a w HE HS
     exact ⟨HS, HE.cutT (by rw [hb16] <;> rfl)⟩
   clear HE HS; intro a w HE HS
   refine rn 1 HE HS ?_; clear HE HS; intro a w HE HS
   refine cutG 4 38 (.bool (((decide (((histP t).2.1) = ((histP t).2.1))) && (decide (((histP t).2.2) = ((histP t).2.2)))) && (decide ((histP t).1 = (histP t).1)))) HE HS ?_ ?_
   ·refine bsp HE (t := 34) rfl (fun hb18 => ?_) (fun hb18 => ?_)
    ·have hk19 := nm hb18
     refine rn 2 HE HS ?_; clear HE HS; intro a w HE HS
     refine op_on HE rfl rfl hb18 ?_
     refine o_callP HE rfl HS rfl rfl T.g32 (c_Same11 ((histP t).1) _ _ ((histP t).1) _ _ _ _ HS.sub hR12 (by first | omega | (have := histP_len t; omega)) (histP_sm (by omega)) hR14 (by first | omega | (have := histP_len t; omega)) (histP_sm (by omega))) ?_
     clear HE HS; rintro _ w a HS rfl HE
     refine rn 1 HE HS ?_; clear HE HS; intro a w HE HS
     exact ⟨HS, HE.cutT (by rw [hb18] <;> rfl)⟩
    ·skip
     refine rn 4 HE HS ?_; clear HE HS; intro a w HE HS
     exact ⟨HS, HE.cutT (by rw [hb18] <;> rfl)⟩
   clear HE HS; intro a w HE HS
   refine rn 1 HE HS ?_; clear HE HS; intro a w HE HS
   apply hK; clear hK K
   refine rt hQ HE HS ?_
   show _ = _
   simp only [packed, Value.bool.injEq]
   simp
end Go.Proofs.YtiinipcmghhacaaDoor.T10
