/- The laws' own calls. -/
import Derived.Test.YtiinipcmghhacaaGreatDoorZD5
set_option linter.unusedVariables false
set_option linter.unusedSimpArgs false
namespace Go.Proofs.YtiinipcmghhacaaGreatDoor.T10
open Go Go.Proofs.YtiinipcmghhacaaGreatDoor.X
theorem T.g17 : goFn Tryz.prog 17 = true := by kernel_rfl
/-! `incognito/incognitolaw10.wakes` -/
set_option maxRecDepth 100000 in
set_option maxHeartbeats 4000000 in
theorem c_wakes10  (w0 : World) (G : Heap) (hG : Sub G w0) (m8 : Int) (h8 : CellsAt G 5 0 [.int .i64 m8]) (hg0 : CellsAt G 1 0 [.int .i64 3, .int .i64 1, str []]) (hg1 : CellsAt G 2 0 [.int .i64 3, .int .i64 0, str []]) (hgm : CellsAt G 3 0 [str [], str [114, 101, 103], str [99, 97, 115], str [115, 101, 116], str [109, 97, 112], str [102, 105, 102, 111], str [115, 116, 97, 99, 107], str [108, 111, 99, 107], str [99, 111, 117, 110, 116], str [109, 97, 120], str [111, 109, 97, 112]]) (hgo : CellsAt G 4 0 [str [], str [119, 114, 105, 116, 101], str [114, 101, 97, 100], str [115, 119, 97, 112], str [97, 100, 100], str [100, 101, 108], str [104, 97, 115], str [112, 117, 116], str [103, 101, 116], str [112, 117, 115, 104], str [112, 111, 112], str [116, 97, 107, 101], str [102, 114, 101, 101], str [115, 99, 97, 110]]) (hgn : CellsAt G 0 0 [str [], str [105, 110, 118, 111, 107, 101], str [111, 107], str [102, 97, 105, 108], str [105, 110, 102, 111]]):
  Calls Tryz.prog 5 #[] w0 (Ret w0 G (fun v _ => v = .bool true)) := by
 refine enter Tryz.func5 rfl Tryz.ntmps5 rfl ?_
 intro Q hQ a HE
 have HS := St.start0 hG
 refine sr fun K hK => ?_
 refine rn 1 HE HS ?_; clear HE HS; intro a w HE HS
 apply hK; clear hK K
 refine sr fun K hK => ?_
 refine o_call HE rfl HS rfl rfl T.g17 (c_Parse10 [53, 32, 97, 32, 111, 107, 32, 51] _ _ HS.sub m8 h8 hg0 hg1 hgm hgo hgn (by first | omega | (simp; done) | (simp; omega) | (have := note_len s; omega))) ?_
 clear HE HS; rintro _ G2 w a HS hle2 ⟨vA2, vc2, vB2, vd2, rfl, hap2, hA2, hbp2, hB2⟩ HE
 replace h8 := h8.le hle2
 replace hg0 := hg0.le hle2
 replace hg1 := hg1.le hle2
 replace hgm := hgm.le hle2
 replace hgo := hgo.le hle2
 replace hgn := hgn.le hle2
 refine rn 3 HE HS ?_; clear HE HS; intro a w HE HS
 refine o_allocZ HE rfl HS ?_; clear HE HS; intro B1 w a HS HE
 refine rn 2 HE HS ?_; clear HE HS; intro a w HE HS
 apply hK; clear hK K
 refine sr fun K hK => ?_
 refine o_call HE rfl HS rfl rfl T.g17 (c_Parse10 [53, 32, 97, 32, 100, 111, 110, 101] _ _ HS.sub m8 h8 hg0 hg1 hgm hgo hgn (by first | omega | (simp; done) | (simp; omega) | (have := note_len s; omega))) ?_
 clear HE HS; rintro _ G4 w a HS hle4 ⟨vA4, vc4, vB4, vd4, rfl, hap4, hA4, hbp4, hB4⟩ HE
 replace h8 := h8.le hle4
 replace hg0 := hg0.le hle4
 replace hg1 := hg1.le hle4
 replace hgm := hgm.le hle4
 replace hgo := hgo.le hle4
 replace hgn := hgn.le hle4
 replace hA2 := hA2.le hle4
 replace hB2 := hB2.le hle4
 refine rn 3 HE HS ?_; clear HE HS; intro a w HE HS
 refine o_allocZ HE rfl HS ?_; clear HE HS; intro B3 w a HS HE
 refine rn 2 HE HS ?_; clear HE HS; intro a w HE HS
 apply hK; clear hK K
 refine sr fun K hK => ?_
 refine o_call HE rfl HS rfl rfl T.g17 (c_Parse10 [45, 53, 32, 97, 32, 111, 107] _ _ HS.sub m8 h8 hg0 hg1 hgm hgo hgn (by first | omega | (simp; done) | (simp; omega) | (have := note_len s; omega))) ?_
 clear HE HS; rintro _ G6 w a HS hle6 ⟨vA6, vc6, vB6, vd6, rfl, hap6, hA6, hbp6, hB6⟩ HE
 replace h8 := h8.le hle6
 replace hg0 := hg0.le hle6
 replace hg1 := hg1.le hle6
 replace hgm := hgm.le hle6
 replace hgo := hgo.le hle6
 replace hgn := hgn.le hle6
 replace hA2 := hA2.le hle6
 replace hB2 := hB2.le hle6
 replace hA4 := hA4.le hle6
 replace hB4 := hB4.le hle6
 refine rn 3 HE HS ?_; clear HE HS; intro a w HE HS
 refine o_allocZ HE rfl HS ?_; clear HE HS; intro B5 w a HS HE
 refine rn 2 HE HS ?_; clear HE HS; intro a w HE HS
 apply hK; clear hK K
 refine sr fun K hK => ?_
 refine rn 3 HE HS ?_; clear HE HS; intro a w HE HS
 refine cutG 4 25 (.bool ((decide (((parseE [53, 32, 97, 32, 111, 107, 32, 51]).2) = 0)) && (decide (((parseE [53, 32, 97, 32, 111, 107, 32, 51]).1.type) = 2)))) HE HS ?_ ?_
 ·refine bsp HE (t := 21) rfl (fun hb8 => ?_) (fun hb8 => ?_)
  ·have hk9 := nm hb8
   refine rn 4 HE HS ?_; clear HE HS; intro a w HE HS
   exact ⟨HS, HE.cutT (by rw [hb8] <;> rfl)⟩
  ·skip
   refine rn 4 HE HS ?_; clear HE HS; intro a w HE HS
   exact ⟨HS, HE.cutT (by rw [hb8] <;> rfl)⟩
 clear HE HS; intro a w HE HS
 refine rn 1 HE HS ?_; clear HE HS; intro a w HE HS
 refine cutG 5 31 (.bool (((decide (((parseE [53, 32, 97, 32, 111, 107, 32, 51]).2) = 0)) && (decide (((parseE [53, 32, 97, 32, 111, 107, 32, 51]).1.type) = 2))) && (decide (((parseE [53, 32, 97, 32, 111, 107, 32, 51]).1.out.length : Int) = 1)))) HE HS ?_ ?_
 ·refine bsp HE (t := 26) rfl (fun hb10 => ?_) (fun hb10 => ?_)
  ·have hk11 := nm hb10
   refine rn 5 HE HS ?_; clear HE HS; intro a w HE HS
   exact ⟨HS, HE.cutT (by rw [hb10] <;> rfl)⟩
  ·skip
   refine rn 5 HE HS ?_; clear HE HS; intro a w HE HS
   exact ⟨HS, HE.cutT (by rw [hb10] <;> rfl)⟩
 clear HE HS; intro a w HE HS
 refine rn 1 HE HS ?_; clear HE HS; intro a w HE HS
 refine cutG 3 35 (.bool ((((decide (((parseE [53, 32, 97, 32, 111, 107, 32, 51]).2) = 0)) && (decide (((parseE [53, 32, 97, 32, 111, 107, 32, 51]).1.type) = 2))) && (decide (((parseE [53, 32, 97, 32, 111, 107, 32, 51]).1.out.length : Int) = 1))) && (decide (((parseE [53, 32, 97, 32, 100, 111, 110, 101]).2) = 2)))) HE HS ?_ ?_
 ·refine bsp HE (t := 32) rfl (fun hb12 => ?_) (fun hb12 => ?_)
  ·have hk13 := nm hb12
   refine rn 3 HE HS ?_; clear HE HS; intro a w HE HS
   exact ⟨HS, HE.cutT (by rw [hb12] <;> rfl)⟩
  ·skip
   refine rn 3 HE HS ?_; clear HE HS; intro a w HE HS
   exact ⟨HS, HE.cutT (by rw [hb12] <;> rfl)⟩
 clear HE HS; intro a w HE HS
 refine rn 1 HE HS ?_; clear HE HS; intro a w HE HS
 refine cutG 3 39 (.bool (((((decide (((parseE [53, 32, 97, 32, 111, 107, 32, 51]).2) = 0)) && (decide (((parseE [53, 32, 97, 32, 111, 107, 32, 51]).1.type) = 2))) && (decide (((parseE [53, 32, 97, 32, 111, 107, 32, 51]).1.out.length : Int) = 1))) && (decide (((parseE [53, 32, 97, 32, 100, 111, 110, 101]).2) = 2))) && (decide (((parseE [45, 53, 32, 97, 32, 111, 107]).2) = 2)))) HE HS ?_ ?_
 ·refine bsp HE (t := 36) rfl (fun hb14 => ?_) (fun hb14 => ?_)
  ·have hk15 := nm hb14
   refine rn 3 HE HS ?_; clear HE HS; intro a w HE HS
   exact ⟨HS, HE.cutT (by rw [hb14] <;> rfl)⟩
  ·skip
   refine rn 3 HE HS ?_; clear HE HS; intro a w HE HS
   exact ⟨HS, HE.cutT (by rw [hb14] <;> rfl)⟩
 clear HE HS; intro a w HE HS
 refine rn 1 HE HS ?_; clear HE HS; intro a w HE HS
 apply hK; clear hK K
 refine rt hQ HE HS ?_
 show _ = _
 simp only [packed, Value.bool.injEq]
 decide +kernel
end Go.Proofs.YtiinipcmghhacaaGreatDoor.T10
