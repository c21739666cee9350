/- The laws of chapter 10 walked. -/
import Derived.Test.YtiinipcmghhacaaDoorC1
set_option linter.unusedVariables false
set_option linter.unusedSimpArgs false
namespace Go.Proofs.YtiinipcmghhacaaDoor.T10
open Go Go.Proofs.YtiinipcmghhacaaDoor.X
theorem T.g21 : goFn Tryd.prog 21 = true := by kernel_rfl
theorem T.g22 : goFn Tryd.prog 22 = true := by kernel_rfl
theorem T.g23 : goFn Tryd.prog 23 = true := by kernel_rfl
theorem T.g24 : goFn Tryd.prog 24 = true := by kernel_rfl
/-! `incognito/incognitolaw10.wakes` -/
set_option maxRecDepth 100000 in
set_option maxHeartbeats 4000000 in
theorem c_wakes10  (w0 : World) (G : Heap) (hG : Sub G w0) (m8 : Int) (h8 : CellsAt G 8 0 [.int .i64 m8]) (hg0 : CellsAt G 3 0 [.int .i64 3, .int .i64 1, str []]) (hg1 : CellsAt G 6 0 [.int .i64 3, .int .i64 0, str []]) (hgm : CellsAt G 4 0 [str [], str [114, 101, 103], str [99, 97, 115], str [115, 101, 116], str [109, 97, 112], str [102, 105, 102, 111], str [115, 116, 97, 99, 107], str [108, 111, 99, 107], str [99, 111, 117, 110, 116], str [109, 97, 120], str [111, 109, 97, 112]]) (hgo : CellsAt G 5 0 [str [], str [119, 114, 105, 116, 101], str [114, 101, 97, 100], str [115, 119, 97, 112], str [97, 100, 100], str [100, 101, 108], str [104, 97, 115], str [112, 117, 116], str [103, 101, 116], str [112, 117, 115, 104], str [112, 111, 112], str [116, 97, 107, 101], str [102, 114, 101, 101], str [115, 99, 97, 110]]) (hgn : CellsAt G 2 0 [str [], str [105, 110, 118, 111, 107, 101], str [111, 107], str [102, 97, 105, 108], str [105, 110, 102, 111]]):
  Calls Tryd.prog 21 #[] w0 (Ret w0 G (fun v _ => v = .bool true)) := by
 refine enter Tryd.func21 rfl Tryd.ntmps21 rfl ?_
 intro Q hQ a HE
 have HS := St.start0 hG
 refine wp_seq_k (fun K hK => ?_); refine wp_region_lit ?_
 refine o_assign HE rfl rfl ?_; clear HE; intro a HE
 refine hK _ _ ?_; clear hK K
 refine wp_seq_k (fun K hK => ?_); refine wp_region_lit ?_
 refine o_call HE rfl HS rfl rfl T.g22 (c_Parse10 [53, 32, 97, 32, 111, 107, 32, 51] _ _ HS.sub m8 h8 hg0 hg1 hgm hgo hgn (by first | omega | (simp; done) | (simp; omega) | (have := note_len s; omega))) ?_
 clear HE HS; rintro _ G2 w a HS hle2 ⟨vA2, vc2, vB2, vd2, rfl, hap2, hA2, hbp2, hB2⟩ HE
 replace h8 := h8.le hle2
 replace hg0 := hg0.le hle2
 replace hg1 := hg1.le hle2
 replace hgm := hgm.le hle2
 replace hgo := hgo.le hle2
 replace hgn := hgn.le hle2
 refine o_move HE rfl rfl ?_; clear HE; intro a HE
 refine o_extract HE rfl rfl rfl ?_; clear HE; intro a HE
 refine o_extract HE rfl rfl rfl ?_; clear HE; intro a HE
 refine o_allocL [(0, _), (1, _), (2, _), (3, _), (4, _), (5, _), (6, _), (7, _), (8, _), (9, _), (10, _), (11, _), (12, _), (13, _)] HE rfl HS T.z44 ⟨rfl, rfl, rfl, rfl, rfl, rfl, rfl, rfl, rfl, rfl, rfl, rfl, rfl, rfl, trivial⟩ ?_; clear HE HS; intro B1 w a HS HE
 refine o_stA HE HS rfl rfl rfl T.a44 (.here .here) rfl ?_; clear HS; intro w HS
 refine o_assign HE rfl rfl ?_; clear HE; intro a HE
 refine hK _ _ ?_; clear hK K
 refine wp_seq_k (fun K hK => ?_); refine wp_region_lit ?_
 refine o_call HE rfl HS rfl rfl T.g22 (c_Parse10 [53, 32, 97, 32, 100, 111, 110, 101] _ _ HS.sub m8 h8 hg0 hg1 hgm hgo hgn (by first | omega | (simp; done) | (simp; omega) | (have := note_len s; omega))) ?_
 clear HE HS; rintro _ G4 w a HS hle4 ⟨vA4, vc4, vB4, vd4, rfl, hap4, hA4, hbp4, hB4⟩ HE
 replace h8 := h8.le hle4
 replace hg0 := hg0.le hle4
 replace hg1 := hg1.le hle4
 replace hgm := hgm.le hle4
 replace hgo := hgo.le hle4
 replace hgn := hgn.le hle4
 replace hA2 := hA2.le hle4
 replace hB2 := hB2.le hle4
 refine o_move HE rfl rfl ?_; clear HE; intro a HE
 refine o_extract HE rfl rfl rfl ?_; clear HE; intro a HE
 refine o_extract HE rfl rfl rfl ?_; clear HE; intro a HE
 refine o_allocL [(0, _), (1, _), (2, _), (3, _), (4, _), (5, _), (6, _), (7, _), (8, _), (9, _), (10, _), (11, _), (12, _), (13, _)] HE rfl HS T.z44 ⟨rfl, rfl, rfl, rfl, rfl, rfl, rfl, rfl, rfl, rfl, rfl, rfl, rfl, rfl, trivial⟩ ?_; clear HE HS; intro B3 w a HS HE
 refine o_stA HE HS rfl rfl rfl T.a44 (.here .here) rfl ?_; clear HS; intro w HS
 refine o_assign HE rfl rfl ?_; clear HE; intro a HE
 refine hK _ _ ?_; clear hK K
 refine wp_seq_k (fun K hK => ?_); refine wp_region_lit ?_
 refine o_call HE rfl HS rfl rfl T.g22 (c_Parse10 [45, 53, 32, 97, 32, 111, 107] _ _ HS.sub m8 h8 hg0 hg1 hgm hgo hgn (by first | omega | (simp; done) | (simp; omega) | (have := note_len s; omega))) ?_
 clear HE HS; rintro _ G6 w a HS hle6 ⟨vA6, vc6, vB6, vd6, rfl, hap6, hA6, hbp6, hB6⟩ HE
 replace h8 := h8.le hle6
 replace hg0 := hg0.le hle6
 replace hg1 := hg1.le hle6
 replace hgm := hgm.le hle6
 replace hgo := hgo.le hle6
 replace hgn := hgn.le hle6
 replace hA2 := hA2.le hle6
 replace hB2 := hB2.le hle6
 replace hA4 := hA4.le hle6
 replace hB4 := hB4.le hle6
 refine o_move HE rfl rfl ?_; clear HE; intro a HE
 refine o_extract HE rfl rfl rfl ?_; clear HE; intro a HE
 refine o_extract HE rfl rfl rfl ?_; clear HE; intro a HE
 refine o_allocL [(0, _), (1, _), (2, _), (3, _), (4, _), (5, _), (6, _), (7, _), (8, _), (9, _), (10, _), (11, _), (12, _), (13, _)] HE rfl HS T.z44 ⟨rfl, rfl, rfl, rfl, rfl, rfl, rfl, rfl, rfl, rfl, rfl, rfl, rfl, rfl, trivial⟩ ?_; clear HE HS; intro B5 w a HS HE
 refine o_stA HE HS rfl rfl rfl T.a44 (.here .here) rfl ?_; clear HS; intro w HS
 refine o_assign HE rfl rfl ?_; clear HE; intro a HE
 refine hK _ _ ?_; clear hK K
 refine wp_seq_k (fun K hK => ?_); refine wp_region_lit ?_
 refine o_move HE rfl rfl ?_; clear HE; intro a HE
 refine o_eqI HE rfl rfl rfl ?_; clear HE; intro a HE
 refine o_move HE rfl rfl ?_; clear HE; intro a HE
 refine cutL 4 (fun a' w' => w = w' ∧ Env a' 40 [] [(25, .bool ((decide (((parseE [53, 32, 97, 32, 111, 107, 32, 51]).2) = 0)) && (decide (((parseE [53, 32, 97, 32, 111, 107, 32, 51]).1.type) = 2)))), (0, .bool false), (1, .pointer (some ⟨B1, 0, none⟩)), (3, .pointer (some ⟨B3, 0, none⟩)), (4, .int .i64 ((parseE [53, 32, 97, 32, 100, 111, 110, 101]).2)), (5, .pointer (some ⟨B5, 0, none⟩)), (6, .int .i64 ((parseE [45, 53, 32, 97, 32, 111, 107]).2)), (7, .tuple #[.agg #[.int .i64 ((parseE [53, 32, 97, 32, 111, 107, 32, 51]).1.time), .int .i64 ((parseE [53, 32, 97, 32, 111, 107, 32, 51]).1.client.k), .int .i64 ((parseE [53, 32, 97, 32, 111, 107, 32, 51]).1.client.n), str ((parseE [53, 32, 97, 32, 111, 107, 32, 51]).1.client.s), .int .i64 ((parseE [53, 32, 97, 32, 111, 107, 32, 51]).1.type), .int .i64 ((parseE [53, 32, 97, 32, 111, 107, 32, 51]).1.model), .int .i64 ((parseE [53, 32, 97, 32, 111, 107, 32, 51]).1.key.k), .int .i64 ((parseE [53, 32, 97, 32, 111, 107, 32, 51]).1.key.n), str ((parseE [53, 32, 97, 32, 111, 107, 32, 51]).1.key.s), .int .i64 ((parseE [53, 32, 97, 32, 111, 107, 32, 51]).1.op), .slice vA2 ((parseE [53, 32, 97, 32, 111, 107, 32, 51]).1.args.length) vc2, .slice vB2 ((parseE [53, 32, 97, 32, 111, 107, 32, 51]).1.out.length) vd2, .bool ((parseE [53, 32, 97, 32, 111, 107, 32, 51]).1.noted), str ((parseE [53, 32, 97, 32, 111, 107, 32, 51]).1.note)], .int .i64 ((parseE [53, 32, 97, 32, 111, 107, 32, 51]).2)]), (8, .tuple #[.agg #[.int .i64 ((parseE [53, 32, 97, 32, 111, 107, 32, 51]).1.time), .int .i64 ((parseE [53, 32, 97, 32, 111, 107, 32, 51]).1.client.k), .int .i64 ((parseE [53, 32, 97, 32, 111, 107, 32, 51]).1.client.n), str ((parseE [53, 32, 97, 32, 111, 107, 32, 51]).1.client.s), .int .i64 ((parseE [53, 32, 97, 32, 111, 107, 32, 51]).1.type), .int .i64 ((parseE [53, 32, 97, 32, 111, 107, 32, 51]).1.model), .int .i64 ((parseE [53, 32, 97, 32, 111, 107, 32, 51]).1.key.k), .int .i64 ((parseE [53, 32, 97, 32, 111, 107, 32, 51]).1.key.n), str ((parseE [53, 32, 97, 32, 111, 107, 32, 51]).1.key.s), .int .i64 ((parseE [53, 32, 97, 32, 111, 107, 32, 51]).1.op), .slice vA2 ((parseE [53, 32, 97, 32, 111, 107, 32, 51]).1.args.length) vc2, .slice vB2 ((parseE [53, 32, 97, 32, 111, 107, 32, 51]).1.out.length) vd2, .bool ((parseE [53, 32, 97, 32, 111, 107, 32, 51]).1.noted), str ((parseE [53, 32, 97, 32, 111, 107, 32, 51]).1.note)], .int .i64 ((parseE [53, 32, 97, 32, 111, 107, 32, 51]).2)]), (9, .agg #[.int .i64 ((parseE [53, 32, 97, 32, 111, 107, 32, 51]).1.time), .int .i64 ((parseE [53, 32, 97, 32, 111, 107, 32, 51]).1.client.k), .int .i64 ((parseE [53, 32, 97, 32, 111, 107, 32, 51]).1.client.n), str ((parseE [53, 32, 97, 32, 111, 107, 32, 51]).1.client.s), .int .i64 ((parseE [53, 32, 97, 32, 111, 107, 32, 51]).1.type), .int .i64 ((parseE [53, 32, 97, 32, 111, 107, 32, 51]).1.model), .int .i64 ((parseE [53, 32, 97, 32, 111, 107, 32, 51]).1.key.k), .int .i64 ((parseE [53, 32, 97, 32, 111, 107, 32, 51]).1.key.n), str ((parseE [53, 32, 97, 32, 111, 107, 32, 51]).1.key.s), .int .i64 ((parseE [53, 32, 97, 32, 111, 107, 32, 51]).1.op), .slice vA2 ((parseE [53, 32, 97, 32, 111, 107, 32, 51]).1.args.length) vc2, .slice vB2 ((parseE [53, 32, 97, 32, 111, 107, 32, 51]).1.out.length) vd2, .bool ((parseE [53, 32, 97, 32, 111, 107, 32, 51]).1.noted), str ((parseE [53, 32, 97, 32, 111, 107, 32, 51]).1.note)]), (10, .int .i64 ((parseE [53, 32, 97, 32, 111, 107, 32, 51]).2)), (11, .tuple #[.agg #[.int .i64 ((parseE [53, 32, 97, 32, 100, 111, 110, 101]).1.time), .int .i64 ((parseE [53, 32, 97, 32, 100, 111, 110, 101]).1.client.k), .int .i64 ((parseE [53, 32, 97, 32, 100, 111, 110, 101]).1.client.n), str ((parseE [53, 32, 97, 32, 100, 111, 110, 101]).1.client.s), .int .i64 ((parseE [53, 32, 97, 32, 100, 111, 110, 101]).1.type), .int .i64 ((parseE [53, 32, 97, 32, 100, 111, 110, 101]).1.model), .int .i64 ((parseE [53, 32, 97, 32, 100, 111, 110, 101]).1.key.k), .int .i64 ((parseE [53, 32, 97, 32, 100, 111, 110, 101]).1.key.n), str ((parseE [53, 32, 97, 32, 100, 111, 110, 101]).1.key.s), .int .i64 ((parseE [53, 32, 97, 32, 100, 111, 110, 101]).1.op), .slice vA4 ((parseE [53, 32, 97, 32, 100, 111, 110, 101]).1.args.length) vc4, .slice vB4 ((parseE [53, 32, 97, 32, 100, 111, 110, 101]).1.out.length) vd4, .bool ((parseE [53, 32, 97, 32, 100, 111, 110, 101]).1.noted), str ((parseE [53, 32, 97, 32, 100, 111, 110, 101]).1.note)], .int .i64 ((parseE [53, 32, 97, 32, 100, 111, 110, 101]).2)]), (12, .tuple #[.agg #[.int .i64 ((parseE [53, 32, 97, 32, 100, 111, 110, 101]).1.time), .int .i64 ((parseE [53, 32, 97, 32, 100, 111, 110, 101]).1.client.k), .int .i64 ((parseE [53, 32, 97, 32, 100, 111, 110, 101]).1.client.n), str ((parseE [53, 32, 97, 32, 100, 111, 110, 101]).1.client.s), .int .i64 ((parseE [53, 32, 97, 32, 100, 111, 110, 101]).1.type), .int .i64 ((parseE [53, 32, 97, 32, 100, 111, 110, 101]).1.model), .int .i64 ((parseE [53, 32, 97, 32, 100, 111, 110, 101]).1.key.k), .int .i64 ((parseE [53, 32, 97, 32, 100, 111, 110, 101]).1.key.n), str ((parseE [53, 32, 97, 32, 100, 111, 110, 101]).1.key.s), .int .i64 ((parseE [53, 32, 97, 32, 100, 111, 110, 101]).1.op), .slice vA4 ((parseE [53, 32, 97, 32, 100, 111, 110, 101]).1.args.length) vc4, .slice vB4 ((parseE [53, 32, 97, 32, 100, 111, 110, 101]).1.out.length) vd4, .bool ((parseE [53, 32, 97, 32, 100, 111, 110, 101]).1.noted), str ((parseE [53, 32, 97, 32, 100, 111, 110, 101]).1.note)], .int .i64 ((parseE [53, 32, 97, 32, 100, 111, 110, 101]).2)]), (13, .agg #[.int .i64 ((parseE [53, 32, 97, 32, 100, 111, 110, 101]).1.time), .int .i64 ((parseE [53, 32, 97, 32, 100, 111, 110, 101]).1.client.k), .int .i64 ((parseE [53, 32, 97, 32, 100, 111, 110, 101]).1.client.n), str ((parseE [53, 32, 97, 32, 100, 111, 110, 101]).1.client.s), .int .i64 ((parseE [53, 32, 97, 32, 100, 111, 110, 101]).1.type), .int .i64 ((parseE [53, 32, 97, 32, 100, 111, 110, 101]).1.model), .int .i64 ((parseE [53, 32, 97, 32, 100, 111, 110, 101]).1.key.k), .int .i64 ((parseE [53, 32, 97, 32, 100, 111, 110, 101]).1.key.n), str ((parseE [53, 32, 97, 32, 100, 111, 110, 101]).1.key.s), .int .i64 ((parseE [53, 32, 97, 32, 100, 111, 110, 101]).1.op), .slice vA4 ((parseE [53, 32, 97, 32, 100, 111, 110, 101]).1.args.length) vc4, .slice vB4 ((parseE [53, 32, 97, 32, 100, 111, 110, 101]).1.out.length) vd4, .bool ((parseE [53, 32, 97, 32, 100, 111, 110, 101]).1.noted), str ((parseE [53, 32, 97, 32, 100, 111, 110, 101]).1.note)]), (14, .int .i64 ((parseE [53, 32, 97, 32, 100, 111, 110, 101]).2)), (15, .tuple #[.agg #[.int .i64 ((parseE [45, 53, 32, 97, 32, 111, 107]).1.time), .int .i64 ((parseE [45, 53, 32, 97, 32, 111, 107]).1.client.k), .int .i64 ((parseE [45, 53, 32, 97, 32, 111, 107]).1.client.n), str ((parseE [45, 53, 32, 97, 32, 111, 107]).1.client.s), .int .i64 ((parseE [45, 53, 32, 97, 32, 111, 107]).1.type), .int .i64 ((parseE [45, 53, 32, 97, 32, 111, 107]).1.model), .int .i64 ((parseE [45, 53, 32, 97, 32, 111, 107]).1.key.k), .int .i64 ((parseE [45, 53, 32, 97, 32, 111, 107]).1.key.n), str ((parseE [45, 53, 32, 97, 32, 111, 107]).1.key.s), .int .i64 ((parseE [45, 53, 32, 97, 32, 111, 107]).1.op), .slice vA6 ((parseE [45, 53, 32, 97, 32, 111, 107]).1.args.length) vc6, .slice vB6 ((parseE [45, 53, 32, 97, 32, 111, 107]).1.out.length) vd6, .bool ((parseE [45, 53, 32, 97, 32, 111, 107]).1.noted), str ((parseE [45, 53, 32, 97, 32, 111, 107]).1.note)], .int .i64 ((parseE [45, 53, 32, 97, 32, 111, 107]).2)]), (16, .tuple #[.agg #[.int .i64 ((parseE [45, 53, 32, 97, 32, 111, 107]).1.time), .int .i64 ((parseE [45, 53, 32, 97, 32, 111, 107]).1.client.k), .int .i64 ((parseE [45, 53, 32, 97, 32, 111, 107]).1.client.n), str ((parseE [45, 53, 32, 97, 32, 111, 107]).1.client.s), .int .i64 ((parseE [45, 53, 32, 97, 32, 111, 107]).1.type), .int .i64 ((parseE [45, 53, 32, 97, 32, 111, 107]).1.model), .int .i64 ((parseE [45, 53, 32, 97, 32, 111, 107]).1.key.k), .int .i64 ((parseE [45, 53, 32, 97, 32, 111, 107]).1.key.n), str ((parseE [45, 53, 32, 97, 32, 111, 107]).1.key.s), .int .i64 ((parseE [45, 53, 32, 97, 32, 111, 107]).1.op), .slice vA6 ((parseE [45, 53, 32, 97, 32, 111, 107]).1.args.length) vc6, .slice vB6 ((parseE [45, 53, 32, 97, 32, 111, 107]).1.out.length) vd6, .bool ((parseE [45, 53, 32, 97, 32, 111, 107]).1.noted), str ((parseE [45, 53, 32, 97, 32, 111, 107]).1.note)], .int .i64 ((parseE [45, 53, 32, 97, 32, 111, 107]).2)]), (17, .agg #[.int .i64 ((parseE [45, 53, 32, 97, 32, 111, 107]).1.time), .int .i64 ((parseE [45, 53, 32, 97, 32, 111, 107]).1.client.k), .int .i64 ((parseE [45, 53, 32, 97, 32, 111, 107]).1.client.n), str ((parseE [45, 53, 32, 97, 32, 111, 107]).1.client.s), .int .i64 ((parseE [45, 53, 32, 97, 32, 111, 107]).1.type), .int .i64 ((parseE [45, 53, 32, 97, 32, 111, 107]).1.model), .int .i64 ((parseE [45, 53, 32, 97, 32, 111, 107]).1.key.k), .int .i64 ((parseE [45, 53, 32, 97, 32, 111, 107]).1.key.n), str ((parseE [45, 53, 32, 97, 32, 111, 107]).1.key.s), .int .i64 ((parseE [45, 53, 32, 97, 32, 111, 107]).1.op), .slice vA6 ((parseE [45, 53, 32, 97, 32, 111, 107]).1.args.length) vc6, .slice vB6 ((parseE [45, 53, 32, 97, 32, 111, 107]).1.out.length) vd6, .bool ((parseE [45, 53, 32, 97, 32, 111, 107]).1.noted), str ((parseE [45, 53, 32, 97, 32, 111, 107]).1.note)]), (18, .int .i64 ((parseE [45, 53, 32, 97, 32, 111, 107]).2))]) ?_ ?_
 ·refine (Bool.eq_false_or_eq_true (decide (((parseE [53, 32, 97, 32, 111, 107, 32, 51]).2) = 0))).elim (fun hb8 => ?_) (fun hb8 => ?_)
  ·skip
   have hk9 := hb8; try simp only [zz1, zz2, zz3, zz4, zz5, zz7, zz8, zz9, zza, zzb] at hk9
   refine op_on HE rfl rfl hb8 ?_
   refine o_fld HE rfl rfl T.f44_2 ?_; clear HE; intro a HE
   refine op_on HE rfl rfl hb8 ?_
   refine o_ld HE rfl HS rfl T.s3 (.there (.there (.here .here))) rfl ?_; clear HE; intro a HE
   refine op_on HE rfl rfl hb8 ?_
   refine o_eqI HE rfl rfl rfl ?_; clear HE; intro a HE
   refine o_pick_t HE rfl rfl hb8 rfl ?_; clear HE; intro a HE
   exact ⟨rfl, HE.cut ⟨by rw [hb8]; rfl, rfl, rfl, rfl, rfl, rfl, rfl, rfl, rfl, rfl, rfl, rfl, rfl, rfl, rfl, rfl, rfl, rfl, rfl, trivial⟩⟩
  ·skip
   have hk10 := hb8; try simp only [zz1, zz2, zz3, zz4, zz5, zz7, zz8, zz9, zza, zzb] at hk10
   refine g_off HE rfl rfl rfl hb8 ?_; clear HE; intro a HE
   refine g_off HE rfl rfl rfl hb8 ?_; clear HE; intro a HE
   refine g_off HE rfl rfl rfl hb8 ?_; clear HE; intro a HE
   refine o_pick_f HE rfl rfl hb8 rfl ?_; clear HE; intro a HE
   exact ⟨rfl, HE.cut ⟨by rw [hb8]; rfl, rfl, rfl, rfl, rfl, rfl, rfl, rfl, rfl, rfl, rfl, rfl, rfl, rfl, rfl, rfl, rfl, rfl, rfl, trivial⟩⟩
 clear HE; rintro a _ ⟨rfl, HE⟩
 refine o_move HE rfl rfl ?_; clear HE; intro a HE
 refine cutL 5 (fun a' w' => w = w' ∧ Env a' 40 [] [(31, .bool (((decide (((parseE [53, 32, 97, 32, 111, 107, 32, 51]).2) = 0)) && (decide (((parseE [53, 32, 97, 32, 111, 107, 32, 51]).1.type) = 2))) && (decide (((parseE [53, 32, 97, 32, 111, 107, 32, 51]).1.out.length : Int) = 1)))), (0, .bool false), (1, .pointer (some ⟨B1, 0, none⟩)), (3, .pointer (some ⟨B3, 0, none⟩)), (4, .int .i64 ((parseE [53, 32, 97, 32, 100, 111, 110, 101]).2)), (5, .pointer (some ⟨B5, 0, none⟩)), (6, .int .i64 ((parseE [45, 53, 32, 97, 32, 111, 107]).2)), (7, .tuple #[.agg #[.int .i64 ((parseE [53, 32, 97, 32, 111, 107, 32, 51]).1.time), .int .i64 ((parseE [53, 32, 97, 32, 111, 107, 32, 51]).1.client.k), .int .i64 ((parseE [53, 32, 97, 32, 111, 107, 32, 51]).1.client.n), str ((parseE [53, 32, 97, 32, 111, 107, 32, 51]).1.client.s), .int .i64 ((parseE [53, 32, 97, 32, 111, 107, 32, 51]).1.type), .int .i64 ((parseE [53, 32, 97, 32, 111, 107, 32, 51]).1.model), .int .i64 ((parseE [53, 32, 97, 32, 111, 107, 32, 51]).1.key.k), .int .i64 ((parseE [53, 32, 97, 32, 111, 107, 32, 51]).1.key.n), str ((parseE [53, 32, 97, 32, 111, 107, 32, 51]).1.key.s), .int .i64 ((parseE [53, 32, 97, 32, 111, 107, 32, 51]).1.op), .slice vA2 ((parseE [53, 32, 97, 32, 111, 107, 32, 51]).1.args.length) vc2, .slice vB2 ((parseE [53, 32, 97, 32, 111, 107, 32, 51]).1.out.length) vd2, .bool ((parseE [53, 32, 97, 32, 111, 107, 32, 51]).1.noted), str ((parseE [53, 32, 97, 32, 111, 107, 32, 51]).1.note)], .int .i64 ((parseE [53, 32, 97, 32, 111, 107, 32, 51]).2)]), (8, .tuple #[.agg #[.int .i64 ((parseE [53, 32, 97, 32, 111, 107, 32, 51]).1.time), .int .i64 ((parseE [53, 32, 97, 32, 111, 107, 32, 51]).1.client.k), .int .i64 ((parseE [53, 32, 97, 32, 111, 107, 32, 51]).1.client.n), str ((parseE [53, 32, 97, 32, 111, 107, 32, 51]).1.client.s), .int .i64 ((parseE [53, 32, 97, 32, 111, 107, 32, 51]).1.type), .int .i64 ((parseE [53, 32, 97, 32, 111, 107, 32, 51]).1.model), .int .i64 ((parseE [53, 32, 97, 32, 111, 107, 32, 51]).1.key.k), .int .i64 ((parseE [53, 32, 97, 32, 111, 107, 32, 51]).1.key.n), str ((parseE [53, 32, 97, 32, 111, 107, 32, 51]).1.key.s), .int .i64 ((parseE [53, 32, 97, 32, 111, 107, 32, 51]).1.op), .slice vA2 ((parseE [53, 32, 97, 32, 111, 107, 32, 51]).1.args.length) vc2, .slice vB2 ((parseE [53, 32, 97, 32, 111, 107, 32, 51]).1.out.length) vd2, .bool ((parseE [53, 32, 97, 32, 111, 107, 32, 51]).1.noted), str ((parseE [53, 32, 97, 32, 111, 107, 32, 51]).1.note)], .int .i64 ((parseE [53, 32, 97, 32, 111, 107, 32, 51]).2)]), (9, .agg #[.int .i64 ((parseE [53, 32, 97, 32, 111, 107, 32, 51]).1.time), .int .i64 ((parseE [53, 32, 97, 32, 111, 107, 32, 51]).1.client.k), .int .i64 ((parseE [53, 32, 97, 32, 111, 107, 32, 51]).1.client.n), str ((parseE [53, 32, 97, 32, 111, 107, 32, 51]).1.client.s), .int .i64 ((parseE [53, 32, 97, 32, 111, 107, 32, 51]).1.type), .int .i64 ((parseE [53, 32, 97, 32, 111, 107, 32, 51]).1.model), .int .i64 ((parseE [53, 32, 97, 32, 111, 107, 32, 51]).1.key.k), .int .i64 ((parseE [53, 32, 97, 32, 111, 107, 32, 51]).1.key.n), str ((parseE [53, 32, 97, 32, 111, 107, 32, 51]).1.key.s), .int .i64 ((parseE [53, 32, 97, 32, 111, 107, 32, 51]).1.op), .slice vA2 ((parseE [53, 32, 97, 32, 111, 107, 32, 51]).1.args.length) vc2, .slice vB2 ((parseE [53, 32, 97, 32, 111, 107, 32, 51]).1.out.length) vd2, .bool ((parseE [53, 32, 97, 32, 111, 107, 32, 51]).1.noted), str ((parseE [53, 32, 97, 32, 111, 107, 32, 51]).1.note)]), (10, .int .i64 ((parseE [53, 32, 97, 32, 111, 107, 32, 51]).2)), (11, .tuple #[.agg #[.int .i64 ((parseE [53, 32, 97, 32, 100, 111, 110, 101]).1.time), .int .i64 ((parseE [53, 32, 97, 32, 100, 111, 110, 101]).1.client.k), .int .i64 ((parseE [53, 32, 97, 32, 100, 111, 110, 101]).1.client.n), str ((parseE [53, 32, 97, 32, 100, 111, 110, 101]).1.client.s), .int .i64 ((parseE [53, 32, 97, 32, 100, 111, 110, 101]).1.type), .int .i64 ((parseE [53, 32, 97, 32, 100, 111, 110, 101]).1.model), .int .i64 ((parseE [53, 32, 97, 32, 100, 111, 110, 101]).1.key.k), .int .i64 ((parseE [53, 32, 97, 32, 100, 111, 110, 101]).1.key.n), str ((parseE [53, 32, 97, 32, 100, 111, 110, 101]).1.key.s), .int .i64 ((parseE [53, 32, 97, 32, 100, 111, 110, 101]).1.op), .slice vA4 ((parseE [53, 32, 97, 32, 100, 111, 110, 101]).1.args.length) vc4, .slice vB4 ((parseE [53, 32, 97, 32, 100, 111, 110, 101]).1.out.length) vd4, .bool ((parseE [53, 32, 97, 32, 100, 111, 110, 101]).1.noted), str ((parseE [53, 32, 97, 32, 100, 111, 110, 101]).1.note)], .int .i64 ((parseE [53, 32, 97, 32, 100, 111, 110, 101]).2)]), (12, .tuple #[.agg #[.int .i64 ((parseE [53, 32, 97, 32, 100, 111, 110, 101]).1.time), .int .i64 ((parseE [53, 32, 97, 32, 100, 111, 110, 101]).1.client.k), .int .i64 ((parseE [53, 32, 97, 32, 100, 111, 110, 101]).1.client.n), str ((parseE [53, 32, 97, 32, 100, 111, 110, 101]).1.client.s), .int .i64 ((parseE [53, 32, 97, 32, 100, 111, 110, 101]).1.type), .int .i64 ((parseE [53, 32, 97, 32, 100, 111, 110, 101]).1.model), .int .i64 ((parseE [53, 32, 97, 32, 100, 111, 110, 101]).1.key.k), .int .i64 ((parseE [53, 32, 97, 32, 100, 111, 110, 101]).1.key.n), str ((parseE [53, 32, 97, 32, 100, 111, 110, 101]).1.key.s), .int .i64 ((parseE [53, 32, 97, 32, 100, 111, 110, 101]).1.op), .slice vA4 ((parseE [53, 32, 97, 32, 100, 111, 110, 101]).1.args.length) vc4, .slice vB4 ((parseE [53, 32, 97, 32, 100, 111, 110, 101]).1.out.length) vd4, .bool ((parseE [53, 32, 97, 32, 100, 111, 110, 101]).1.noted), str ((parseE [53, 32, 97, 32, 100, 111, 110, 101]).1.note)], .int .i64 ((parseE [53, 32, 97, 32, 100, 111, 110, 101]).2)]), (13, .agg #[.int .i64 ((parseE [53, 32, 97, 32, 100, 111, 110, 101]).1.time), .int .i64 ((parseE [53, 32, 97, 32, 100, 111, 110, 101]).1.client.k), .int .i64 ((parseE [53, 32, 97, 32, 100, 111, 110, 101]).1.client.n), str ((parseE [53, 32, 97, 32, 100, 111, 110, 101]).1.client.s), .int .i64 ((parseE [53, 32, 97, 32, 100, 111, 110, 101]).1.type), .int .i64 ((parseE [53, 32, 97, 32, 100, 111, 110, 101]).1.model), .int .i64 ((parseE [53, 32, 97, 32, 100, 111, 110, 101]).1.key.k), .int .i64 ((parseE [53, 32, 97, 32, 100, 111, 110, 101]).1.key.n), str ((parseE [53, 32, 97, 32, 100, 111, 110, 101]).1.key.s), .int .i64 ((parseE [53, 32, 97, 32, 100, 111, 110, 101]).1.op), .slice vA4 ((parseE [53, 32, 97, 32, 100, 111, 110, 101]).1.args.length) vc4, .slice vB4 ((parseE [53, 32, 97, 32, 100, 111, 110, 101]).1.out.length) vd4, .bool ((parseE [53, 32, 97, 32, 100, 111, 110, 101]).1.noted), str ((parseE [53, 32, 97, 32, 100, 111, 110, 101]).1.note)]), (14, .int .i64 ((parseE [53, 32, 97, 32, 100, 111, 110, 101]).2)), (15, .tuple #[.agg #[.int .i64 ((parseE [45, 53, 32, 97, 32, 111, 107]).1.time), .int .i64 ((parseE [45, 53, 32, 97, 32, 111, 107]).1.client.k), .int .i64 ((parseE [45, 53, 32, 97, 32, 111, 107]).1.client.n), str ((parseE [45, 53, 32, 97, 32, 111, 107]).1.client.s), .int .i64 ((parseE [45, 53, 32, 97, 32, 111, 107]).1.type), .int .i64 ((parseE [45, 53, 32, 97, 32, 111, 107]).1.model), .int .i64 ((parseE [45, 53, 32, 97, 32, 111, 107]).1.key.k), .int .i64 ((parseE [45, 53, 32, 97, 32, 111, 107]).1.key.n), str ((parseE [45, 53, 32, 97, 32, 111, 107]).1.key.s), .int .i64 ((parseE [45, 53, 32, 97, 32, 111, 107]).1.op), .slice vA6 ((parseE [45, 53, 32, 97, 32, 111, 107]).1.args.length) vc6, .slice vB6 ((parseE [45, 53, 32, 97, 32, 111, 107]).1.out.length) vd6, .bool ((parseE [45, 53, 32, 97, 32, 111, 107]).1.noted), str ((parseE [45, 53, 32, 97, 32, 111, 107]).1.note)], .int .i64 ((parseE [45, 53, 32, 97, 32, 111, 107]).2)]), (16, .tuple #[.agg #[.int .i64 ((parseE [45, 53, 32, 97, 32, 111, 107]).1.time), .int .i64 ((parseE [45, 53, 32, 97, 32, 111, 107]).1.client.k), .int .i64 ((parseE [45, 53, 32, 97, 32, 111, 107]).1.client.n), str ((parseE [45, 53, 32, 97, 32, 111, 107]).1.client.s), .int .i64 ((parseE [45, 53, 32, 97, 32, 111, 107]).1.type), .int .i64 ((parseE [45, 53, 32, 97, 32, 111, 107]).1.model), .int .i64 ((parseE [45, 53, 32, 97, 32, 111, 107]).1.key.k), .int .i64 ((parseE [45, 53, 32, 97, 32, 111, 107]).1.key.n), str ((parseE [45, 53, 32, 97, 32, 111, 107]).1.key.s), .int .i64 ((parseE [45, 53, 32, 97, 32, 111, 107]).1.op), .slice vA6 ((parseE [45, 53, 32, 97, 32, 111, 107]).1.args.length) vc6, .slice vB6 ((parseE [45, 53, 32, 97, 32, 111, 107]).1.out.length) vd6, .bool ((parseE [45, 53, 32, 97, 32, 111, 107]).1.noted), str ((parseE [45, 53, 32, 97, 32, 111, 107]).1.note)], .int .i64 ((parseE [45, 53, 32, 97, 32, 111, 107]).2)]), (17, .agg #[.int .i64 ((parseE [45, 53, 32, 97, 32, 111, 107]).1.time), .int .i64 ((parseE [45, 53, 32, 97, 32, 111, 107]).1.client.k), .int .i64 ((parseE [45, 53, 32, 97, 32, 111, 107]).1.client.n), str ((parseE [45, 53, 32, 97, 32, 111, 107]).1.client.s), .int .i64 ((parseE [45, 53, 32, 97, 32, 111, 107]).1.type), .int .i64 ((parseE [45, 53, 32, 97, 32, 111, 107]).1.model), .int .i64 ((parseE [45, 53, 32, 97, 32, 111, 107]).1.key.k), .int .i64 ((parseE [45, 53, 32, 97, 32, 111, 107]).1.key.n), str ((parseE [45, 53, 32, 97, 32, 111, 107]).1.key.s), .int .i64 ((parseE [45, 53, 32, 97, 32, 111, 107]).1.op), .slice vA6 ((parseE [45, 53, 32, 97, 32, 111, 107]).1.args.length) vc6, .slice vB6 ((parseE [45, 53, 32, 97, 32, 111, 107]).1.out.length) vd6, .bool ((parseE [45, 53, 32, 97, 32, 111, 107]).1.noted), str ((parseE [45, 53, 32, 97, 32, 111, 107]).1.note)]), (18, .int .i64 ((parseE [45, 53, 32, 97, 32, 111, 107]).2))]) ?_ ?_
 ·refine (Bool.eq_false_or_eq_true ((decide (((parseE [53, 32, 97, 32, 111, 107, 32, 51]).2) = 0)) && (decide (((parseE [53, 32, 97, 32, 111, 107, 32, 51]).1.type) = 2)))).elim (fun hb11 => ?_) (fun hb11 => ?_)
  ·skip
   have hk12 := hb11; try simp only [zz1, zz2, zz3, zz4, zz5, zz7, zz8, zz9, zza, zzb] at hk12
   refine op_on HE rfl rfl hb11 ?_
   refine o_fld HE rfl rfl T.f44_7 ?_; clear HE; intro a HE
   refine op_on HE rfl rfl hb11 ?_
   refine o_ld HE rfl HS rfl T.s42 (.there (.there (.here .here))) rfl ?_; clear HE; intro a HE
   refine op_on HE rfl rfl hb11 ?_
   refine o_lenL HE rfl rfl Tryd.underlying42 ?_; clear HE; intro a HE
   refine op_on HE rfl rfl hb11 ?_
   refine o_eqI HE rfl rfl rfl ?_; clear HE; intro a HE
   refine o_pick_t HE rfl rfl hb11 rfl ?_; clear HE; intro a HE
   exact ⟨rfl, HE.cut ⟨by rw [hb11]; rfl, rfl, rfl, rfl, rfl, rfl, rfl, rfl, rfl, rfl, rfl, rfl, rfl, rfl, rfl, rfl, rfl, rfl, rfl, trivial⟩⟩
  ·skip
   have hk13 := hb11; try simp only [zz1, zz2, zz3, zz4, zz5, zz7, zz8, zz9, zza, zzb] at hk13
   refine g_off HE rfl rfl rfl hb11 ?_; clear HE; intro a HE
   refine g_off HE rfl rfl rfl hb11 ?_; clear HE; intro a HE
   refine g_off HE rfl rfl rfl hb11 ?_; clear HE; intro a HE
   refine g_off HE rfl rfl rfl hb11 ?_; clear HE; intro a HE
   refine o_pick_f HE rfl rfl hb11 rfl ?_; clear HE; intro a HE
   exact ⟨rfl, HE.cut ⟨by rw [hb11]; rfl, rfl, rfl, rfl, rfl, rfl, rfl, rfl, rfl, rfl, rfl, rfl, rfl, rfl, rfl, rfl, rfl, rfl, rfl, trivial⟩⟩
 clear HE; rintro a _ ⟨rfl, HE⟩
 refine o_move HE rfl rfl ?_; clear HE; intro a HE
 refine cutL 3 (fun a' w' => w = w' ∧ Env a' 40 [] [(35, .bool ((((decide (((parseE [53, 32, 97, 32, 111, 107, 32, 51]).2) = 0)) && (decide (((parseE [53, 32, 97, 32, 111, 107, 32, 51]).1.type) = 2))) && (decide (((parseE [53, 32, 97, 32, 111, 107, 32, 51]).1.out.length : Int) = 1))) && (decide (((parseE [53, 32, 97, 32, 100, 111, 110, 101]).2) = 2)))), (0, .bool false), (1, .pointer (some ⟨B1, 0, none⟩)), (3, .pointer (some ⟨B3, 0, none⟩)), (5, .pointer (some ⟨B5, 0, none⟩)), (6, .int .i64 ((parseE [45, 53, 32, 97, 32, 111, 107]).2)), (7, .tuple #[.agg #[.int .i64 ((parseE [53, 32, 97, 32, 111, 107, 32, 51]).1.time), .int .i64 ((parseE [53, 32, 97, 32, 111, 107, 32, 51]).1.client.k), .int .i64 ((parseE [53, 32, 97, 32, 111, 107, 32, 51]).1.client.n), str ((parseE [53, 32, 97, 32, 111, 107, 32, 51]).1.client.s), .int .i64 ((parseE [53, 32, 97, 32, 111, 107, 32, 51]).1.type), .int .i64 ((parseE [53, 32, 97, 32, 111, 107, 32, 51]).1.model), .int .i64 ((parseE [53, 32, 97, 32, 111, 107, 32, 51]).1.key.k), .int .i64 ((parseE [53, 32, 97, 32, 111, 107, 32, 51]).1.key.n), str ((parseE [53, 32, 97, 32, 111, 107, 32, 51]).1.key.s), .int .i64 ((parseE [53, 32, 97, 32, 111, 107, 32, 51]).1.op), .slice vA2 ((parseE [53, 32, 97, 32, 111, 107, 32, 51]).1.args.length) vc2, .slice vB2 ((parseE [53, 32, 97, 32, 111, 107, 32, 51]).1.out.length) vd2, .bool ((parseE [53, 32, 97, 32, 111, 107, 32, 51]).1.noted), str ((parseE [53, 32, 97, 32, 111, 107, 32, 51]).1.note)], .int .i64 ((parseE [53, 32, 97, 32, 111, 107, 32, 51]).2)]), (8, .tuple #[.agg #[.int .i64 ((parseE [53, 32, 97, 32, 111, 107, 32, 51]).1.time), .int .i64 ((parseE [53, 32, 97, 32, 111, 107, 32, 51]).1.client.k), .int .i64 ((parseE [53, 32, 97, 32, 111, 107, 32, 51]).1.client.n), str ((parseE [53, 32, 97, 32, 111, 107, 32, 51]).1.client.s), .int .i64 ((parseE [53, 32, 97, 32, 111, 107, 32, 51]).1.type), .int .i64 ((parseE [53, 32, 97, 32, 111, 107, 32, 51]).1.model), .int .i64 ((parseE [53, 32, 97, 32, 111, 107, 32, 51]).1.key.k), .int .i64 ((parseE [53, 32, 97, 32, 111, 107, 32, 51]).1.key.n), str ((parseE [53, 32, 97, 32, 111, 107, 32, 51]).1.key.s), .int .i64 ((parseE [53, 32, 97, 32, 111, 107, 32, 51]).1.op), .slice vA2 ((parseE [53, 32, 97, 32, 111, 107, 32, 51]).1.args.length) vc2, .slice vB2 ((parseE [53, 32, 97, 32, 111, 107, 32, 51]).1.out.length) vd2, .bool ((parseE [53, 32, 97, 32, 111, 107, 32, 51]).1.noted), str ((parseE [53, 32, 97, 32, 111, 107, 32, 51]).1.note)], .int .i64 ((parseE [53, 32, 97, 32, 111, 107, 32, 51]).2)]), (9, .agg #[.int .i64 ((parseE [53, 32, 97, 32, 111, 107, 32, 51]).1.time), .int .i64 ((parseE [53, 32, 97, 32, 111, 107, 32, 51]).1.client.k), .int .i64 ((parseE [53, 32, 97, 32, 111, 107, 32, 51]).1.client.n), str ((parseE [53, 32, 97, 32, 111, 107, 32, 51]).1.client.s), .int .i64 ((parseE [53, 32, 97, 32, 111, 107, 32, 51]).1.type), .int .i64 ((parseE [53, 32, 97, 32, 111, 107, 32, 51]).1.model), .int .i64 ((parseE [53, 32, 97, 32, 111, 107, 32, 51]).1.key.k), .int .i64 ((parseE [53, 32, 97, 32, 111, 107, 32, 51]).1.key.n), str ((parseE [53, 32, 97, 32, 111, 107, 32, 51]).1.key.s), .int .i64 ((parseE [53, 32, 97, 32, 111, 107, 32, 51]).1.op), .slice vA2 ((parseE [53, 32, 97, 32, 111, 107, 32, 51]).1.args.length) vc2, .slice vB2 ((parseE [53, 32, 97, 32, 111, 107, 32, 51]).1.out.length) vd2, .bool ((parseE [53, 32, 97, 32, 111, 107, 32, 51]).1.noted), str ((parseE [53, 32, 97, 32, 111, 107, 32, 51]).1.note)]), (10, .int .i64 ((parseE [53, 32, 97, 32, 111, 107, 32, 51]).2)), (11, .tuple #[.agg #[.int .i64 ((parseE [53, 32, 97, 32, 100, 111, 110, 101]).1.time), .int .i64 ((parseE [53, 32, 97, 32, 100, 111, 110, 101]).1.client.k), .int .i64 ((parseE [53, 32, 97, 32, 100, 111, 110, 101]).1.client.n), str ((parseE [53, 32, 97, 32, 100, 111, 110, 101]).1.client.s), .int .i64 ((parseE [53, 32, 97, 32, 100, 111, 110, 101]).1.type), .int .i64 ((parseE [53, 32, 97, 32, 100, 111, 110, 101]).1.model), .int .i64 ((parseE [53, 32, 97, 32, 100, 111, 110, 101]).1.key.k), .int .i64 ((parseE [53, 32, 97, 32, 100, 111, 110, 101]).1.key.n), str ((parseE [53, 32, 97, 32, 100, 111, 110, 101]).1.key.s), .int .i64 ((parseE [53, 32, 97, 32, 100, 111, 110, 101]).1.op), .slice vA4 ((parseE [53, 32, 97, 32, 100, 111, 110, 101]).1.args.length) vc4, .slice vB4 ((parseE [53, 32, 97, 32, 100, 111, 110, 101]).1.out.length) vd4, .bool ((parseE [53, 32, 97, 32, 100, 111, 110, 101]).1.noted), str ((parseE [53, 32, 97, 32, 100, 111, 110, 101]).1.note)], .int .i64 ((parseE [53, 32, 97, 32, 100, 111, 110, 101]).2)]), (12, .tuple #[.agg #[.int .i64 ((parseE [53, 32, 97, 32, 100, 111, 110, 101]).1.time), .int .i64 ((parseE [53, 32, 97, 32, 100, 111, 110, 101]).1.client.k), .int .i64 ((parseE [53, 32, 97, 32, 100, 111, 110, 101]).1.client.n), str ((parseE [53, 32, 97, 32, 100, 111, 110, 101]).1.client.s), .int .i64 ((parseE [53, 32, 97, 32, 100, 111, 110, 101]).1.type), .int .i64 ((parseE [53, 32, 97, 32, 100, 111, 110, 101]).1.model), .int .i64 ((parseE [53, 32, 97, 32, 100, 111, 110, 101]).1.key.k), .int .i64 ((parseE [53, 32, 97, 32, 100, 111, 110, 101]).1.key.n), str ((parseE [53, 32, 97, 32, 100, 111, 110, 101]).1.key.s), .int .i64 ((parseE [53, 32, 97, 32, 100, 111, 110, 101]).1.op), .slice vA4 ((parseE [53, 32, 97, 32, 100, 111, 110, 101]).1.args.length) vc4, .slice vB4 ((parseE [53, 32, 97, 32, 100, 111, 110, 101]).1.out.length) vd4, .bool ((parseE [53, 32, 97, 32, 100, 111, 110, 101]).1.noted), str ((parseE [53, 32, 97, 32, 100, 111, 110, 101]).1.note)], .int .i64 ((parseE [53, 32, 97, 32, 100, 111, 110, 101]).2)]), (13, .agg #[.int .i64 ((parseE [53, 32, 97, 32, 100, 111, 110, 101]).1.time), .int .i64 ((parseE [53, 32, 97, 32, 100, 111, 110, 101]).1.client.k), .int .i64 ((parseE [53, 32, 97, 32, 100, 111, 110, 101]).1.client.n), str ((parseE [53, 32, 97, 32, 100, 111, 110, 101]).1.client.s), .int .i64 ((parseE [53, 32, 97, 32, 100, 111, 110, 101]).1.type), .int .i64 ((parseE [53, 32, 97, 32, 100, 111, 110, 101]).1.model), .int .i64 ((parseE [53, 32, 97, 32, 100, 111, 110, 101]).1.key.k), .int .i64 ((parseE [53, 32, 97, 32, 100, 111, 110, 101]).1.key.n), str ((parseE [53, 32, 97, 32, 100, 111, 110, 101]).1.key.s), .int .i64 ((parseE [53, 32, 97, 32, 100, 111, 110, 101]).1.op), .slice vA4 ((parseE [53, 32, 97, 32, 100, 111, 110, 101]).1.args.length) vc4, .slice vB4 ((parseE [53, 32, 97, 32, 100, 111, 110, 101]).1.out.length) vd4, .bool ((parseE [53, 32, 97, 32, 100, 111, 110, 101]).1.noted), str ((parseE [53, 32, 97, 32, 100, 111, 110, 101]).1.note)]), (14, .int .i64 ((parseE [53, 32, 97, 32, 100, 111, 110, 101]).2)), (15, .tuple #[.agg #[.int .i64 ((parseE [45, 53, 32, 97, 32, 111, 107]).1.time), .int .i64 ((parseE [45, 53, 32, 97, 32, 111, 107]).1.client.k), .int .i64 ((parseE [45, 53, 32, 97, 32, 111, 107]).1.client.n), str ((parseE [45, 53, 32, 97, 32, 111, 107]).1.client.s), .int .i64 ((parseE [45, 53, 32, 97, 32, 111, 107]).1.type), .int .i64 ((parseE [45, 53, 32, 97, 32, 111, 107]).1.model), .int .i64 ((parseE [45, 53, 32, 97, 32, 111, 107]).1.key.k), .int .i64 ((parseE [45, 53, 32, 97, 32, 111, 107]).1.key.n), str ((parseE [45, 53, 32, 97, 32, 111, 107]).1.key.s), .int .i64 ((parseE [45, 53, 32, 97, 32, 111, 107]).1.op), .slice vA6 ((parseE [45, 53, 32, 97, 32, 111, 107]).1.args.length) vc6, .slice vB6 ((parseE [45, 53, 32, 97, 32, 111, 107]).1.out.length) vd6, .bool ((parseE [45, 53, 32, 97, 32, 111, 107]).1.noted), str ((parseE [45, 53, 32, 97, 32, 111, 107]).1.note)], .int .i64 ((parseE [45, 53, 32, 97, 32, 111, 107]).2)]), (16, .tuple #[.agg #[.int .i64 ((parseE [45, 53, 32, 97, 32, 111, 107]).1.time), .int .i64 ((parseE [45, 53, 32, 97, 32, 111, 107]).1.client.k), .int .i64 ((parseE [45, 53, 32, 97, 32, 111, 107]).1.client.n), str ((parseE [45, 53, 32, 97, 32, 111, 107]).1.client.s), .int .i64 ((parseE [45, 53, 32, 97, 32, 111, 107]).1.type), .int .i64 ((parseE [45, 53, 32, 97, 32, 111, 107]).1.model), .int .i64 ((parseE [45, 53, 32, 97, 32, 111, 107]).1.key.k), .int .i64 ((parseE [45, 53, 32, 97, 32, 111, 107]).1.key.n), str ((parseE [45, 53, 32, 97, 32, 111, 107]).1.key.s), .int .i64 ((parseE [45, 53, 32, 97, 32, 111, 107]).1.op), .slice vA6 ((parseE [45, 53, 32, 97, 32, 111, 107]).1.args.length) vc6, .slice vB6 ((parseE [45, 53, 32, 97, 32, 111, 107]).1.out.length) vd6, .bool ((parseE [45, 53, 32, 97, 32, 111, 107]).1.noted), str ((parseE [45, 53, 32, 97, 32, 111, 107]).1.note)], .int .i64 ((parseE [45, 53, 32, 97, 32, 111, 107]).2)]), (17, .agg #[.int .i64 ((parseE [45, 53, 32, 97, 32, 111, 107]).1.time), .int .i64 ((parseE [45, 53, 32, 97, 32, 111, 107]).1.client.k), .int .i64 ((parseE [45, 53, 32, 97, 32, 111, 107]).1.client.n), str ((parseE [45, 53, 32, 97, 32, 111, 107]).1.client.s), .int .i64 ((parseE [45, 53, 32, 97, 32, 111, 107]).1.type), .int .i64 ((parseE [45, 53, 32, 97, 32, 111, 107]).1.model), .int .i64 ((parseE [45, 53, 32, 97, 32, 111, 107]).1.key.k), .int .i64 ((parseE [45, 53, 32, 97, 32, 111, 107]).1.key.n), str ((parseE [45, 53, 32, 97, 32, 111, 107]).1.key.s), .int .i64 ((parseE [45, 53, 32, 97, 32, 111, 107]).1.op), .slice vA6 ((parseE [45, 53, 32, 97, 32, 111, 107]).1.args.length) vc6, .slice vB6 ((parseE [45, 53, 32, 97, 32, 111, 107]).1.out.length) vd6, .bool ((parseE [45, 53, 32, 97, 32, 111, 107]).1.noted), str ((parseE [45, 53, 32, 97, 32, 111, 107]).1.note)]), (18, .int .i64 ((parseE [45, 53, 32, 97, 32, 111, 107]).2))]) ?_ ?_
 ·refine (Bool.eq_false_or_eq_true (((decide (((parseE [53, 32, 97, 32, 111, 107, 32, 51]).2) = 0)) && (decide (((parseE [53, 32, 97, 32, 111, 107, 32, 51]).1.type) = 2))) && (decide (((parseE [53, 32, 97, 32, 111, 107, 32, 51]).1.out.length : Int) = 1)))).elim (fun hb14 => ?_) (fun hb14 => ?_)
  ·skip
   have hk15 := hb14; try simp only [zz1, zz2, zz3, zz4, zz5, zz7, zz8, zz9, zza, zzb] at hk15
   refine op_on HE rfl rfl hb14 ?_
   refine o_move HE rfl rfl ?_; clear HE; intro a HE
   refine op_on HE rfl rfl hb14 ?_
   refine o_eqI HE rfl rfl rfl ?_; clear HE; intro a HE
   refine o_pick_t HE rfl rfl hb14 rfl ?_; clear HE; intro a HE
   exact ⟨rfl, HE.cut ⟨by rw [hb14]; rfl, rfl, rfl, rfl, rfl, rfl, rfl, rfl, rfl, rfl, rfl, rfl, rfl, rfl, rfl, rfl, rfl, rfl, trivial⟩⟩
  ·skip
   have hk16 := hb14; try simp only [zz1, zz2, zz3, zz4, zz5, zz7, zz8, zz9, zza, zzb] at hk16
   refine g_off HE rfl rfl rfl hb14 ?_; clear HE; intro a HE
   refine g_off HE rfl rfl rfl hb14 ?_; clear HE; intro a HE
   refine o_pick_f HE rfl rfl hb14 rfl ?_; clear HE; intro a HE
   exact ⟨rfl, HE.cut ⟨by rw [hb14]; rfl, rfl, rfl, rfl, rfl, rfl, rfl, rfl, rfl, rfl, rfl, rfl, rfl, rfl, rfl, rfl, rfl, rfl, trivial⟩⟩
 clear HE; rintro a _ ⟨rfl, HE⟩
 refine o_move HE rfl rfl ?_; clear HE; intro a HE
 refine cutL 3 (fun a' w' => w = w' ∧ Env a' 40 [] [(39, .bool (((((decide (((parseE [53, 32, 97, 32, 111, 107, 32, 51]).2) = 0)) && (decide (((parseE [53, 32, 97, 32, 111, 107, 32, 51]).1.type) = 2))) && (decide (((parseE [53, 32, 97, 32, 111, 107, 32, 51]).1.out.length : Int) = 1))) && (decide (((parseE [53, 32, 97, 32, 100, 111, 110, 101]).2) = 2))) && (decide (((parseE [45, 53, 32, 97, 32, 111, 107]).2) = 2)))), (0, .bool false), (1, .pointer (some ⟨B1, 0, none⟩)), (3, .pointer (some ⟨B3, 0, none⟩)), (5, .pointer (some ⟨B5, 0, none⟩)), (7, .tuple #[.agg #[.int .i64 ((parseE [53, 32, 97, 32, 111, 107, 32, 51]).1.time), .int .i64 ((parseE [53, 32, 97, 32, 111, 107, 32, 51]).1.client.k), .int .i64 ((parseE [53, 32, 97, 32, 111, 107, 32, 51]).1.client.n), str ((parseE [53, 32, 97, 32, 111, 107, 32, 51]).1.client.s), .int .i64 ((parseE [53, 32, 97, 32, 111, 107, 32, 51]).1.type), .int .i64 ((parseE [53, 32, 97, 32, 111, 107, 32, 51]).1.model), .int .i64 ((parseE [53, 32, 97, 32, 111, 107, 32, 51]).1.key.k), .int .i64 ((parseE [53, 32, 97, 32, 111, 107, 32, 51]).1.key.n), str ((parseE [53, 32, 97, 32, 111, 107, 32, 51]).1.key.s), .int .i64 ((parseE [53, 32, 97, 32, 111, 107, 32, 51]).1.op), .slice vA2 ((parseE [53, 32, 97, 32, 111, 107, 32, 51]).1.args.length) vc2, .slice vB2 ((parseE [53, 32, 97, 32, 111, 107, 32, 51]).1.out.length) vd2, .bool ((parseE [53, 32, 97, 32, 111, 107, 32, 51]).1.noted), str ((parseE [53, 32, 97, 32, 111, 107, 32, 51]).1.note)], .int .i64 ((parseE [53, 32, 97, 32, 111, 107, 32, 51]).2)]), (8, .tuple #[.agg #[.int .i64 ((parseE [53, 32, 97, 32, 111, 107, 32, 51]).1.time), .int .i64 ((parseE [53, 32, 97, 32, 111, 107, 32, 51]).1.client.k), .int .i64 ((parseE [53, 32, 97, 32, 111, 107, 32, 51]).1.client.n), str ((parseE [53, 32, 97, 32, 111, 107, 32, 51]).1.client.s), .int .i64 ((parseE [53, 32, 97, 32, 111, 107, 32, 51]).1.type), .int .i64 ((parseE [53, 32, 97, 32, 111, 107, 32, 51]).1.model), .int .i64 ((parseE [53, 32, 97, 32, 111, 107, 32, 51]).1.key.k), .int .i64 ((parseE [53, 32, 97, 32, 111, 107, 32, 51]).1.key.n), str ((parseE [53, 32, 97, 32, 111, 107, 32, 51]).1.key.s), .int .i64 ((parseE [53, 32, 97, 32, 111, 107, 32, 51]).1.op), .slice vA2 ((parseE [53, 32, 97, 32, 111, 107, 32, 51]).1.args.length) vc2, .slice vB2 ((parseE [53, 32, 97, 32, 111, 107, 32, 51]).1.out.length) vd2, .bool ((parseE [53, 32, 97, 32, 111, 107, 32, 51]).1.noted), str ((parseE [53, 32, 97, 32, 111, 107, 32, 51]).1.note)], .int .i64 ((parseE [53, 32, 97, 32, 111, 107, 32, 51]).2)]), (9, .agg #[.int .i64 ((parseE [53, 32, 97, 32, 111, 107, 32, 51]).1.time), .int .i64 ((parseE [53, 32, 97, 32, 111, 107, 32, 51]).1.client.k), .int .i64 ((parseE [53, 32, 97, 32, 111, 107, 32, 51]).1.client.n), str ((parseE [53, 32, 97, 32, 111, 107, 32, 51]).1.client.s), .int .i64 ((parseE [53, 32, 97, 32, 111, 107, 32, 51]).1.type), .int .i64 ((parseE [53, 32, 97, 32, 111, 107, 32, 51]).1.model), .int .i64 ((parseE [53, 32, 97, 32, 111, 107, 32, 51]).1.key.k), .int .i64 ((parseE [53, 32, 97, 32, 111, 107, 32, 51]).1.key.n), str ((parseE [53, 32, 97, 32, 111, 107, 32, 51]).1.key.s), .int .i64 ((parseE [53, 32, 97, 32, 111, 107, 32, 51]).1.op), .slice vA2 ((parseE [53, 32, 97, 32, 111, 107, 32, 51]).1.args.length) vc2, .slice vB2 ((parseE [53, 32, 97, 32, 111, 107, 32, 51]).1.out.length) vd2, .bool ((parseE [53, 32, 97, 32, 111, 107, 32, 51]).1.noted), str ((parseE [53, 32, 97, 32, 111, 107, 32, 51]).1.note)]), (10, .int .i64 ((parseE [53, 32, 97, 32, 111, 107, 32, 51]).2)), (11, .tuple #[.agg #[.int .i64 ((parseE [53, 32, 97, 32, 100, 111, 110, 101]).1.time), .int .i64 ((parseE [53, 32, 97, 32, 100, 111, 110, 101]).1.client.k), .int .i64 ((parseE [53, 32, 97, 32, 100, 111, 110, 101]).1.client.n), str ((parseE [53, 32, 97, 32, 100, 111, 110, 101]).1.client.s), .int .i64 ((parseE [53, 32, 97, 32, 100, 111, 110, 101]).1.type), .int .i64 ((parseE [53, 32, 97, 32, 100, 111, 110, 101]).1.model), .int .i64 ((parseE [53, 32, 97, 32, 100, 111, 110, 101]).1.key.k), .int .i64 ((parseE [53, 32, 97, 32, 100, 111, 110, 101]).1.key.n), str ((parseE [53, 32, 97, 32, 100, 111, 110, 101]).1.key.s), .int .i64 ((parseE [53, 32, 97, 32, 100, 111, 110, 101]).1.op), .slice vA4 ((parseE [53, 32, 97, 32, 100, 111, 110, 101]).1.args.length) vc4, .slice vB4 ((parseE [53, 32, 97, 32, 100, 111, 110, 101]).1.out.length) vd4, .bool ((parseE [53, 32, 97, 32, 100, 111, 110, 101]).1.noted), str ((parseE [53, 32, 97, 32, 100, 111, 110, 101]).1.note)], .int .i64 ((parseE [53, 32, 97, 32, 100, 111, 110, 101]).2)]), (12, .tuple #[.agg #[.int .i64 ((parseE [53, 32, 97, 32, 100, 111, 110, 101]).1.time), .int .i64 ((parseE [53, 32, 97, 32, 100, 111, 110, 101]).1.client.k), .int .i64 ((parseE [53, 32, 97, 32, 100, 111, 110, 101]).1.client.n), str ((parseE [53, 32, 97, 32, 100, 111, 110, 101]).1.client.s), .int .i64 ((parseE [53, 32, 97, 32, 100, 111, 110, 101]).1.type), .int .i64 ((parseE [53, 32, 97, 32, 100, 111, 110, 101]).1.model), .int .i64 ((parseE [53, 32, 97, 32, 100, 111, 110, 101]).1.key.k), .int .i64 ((parseE [53, 32, 97, 32, 100, 111, 110, 101]).1.key.n), str ((parseE [53, 32, 97, 32, 100, 111, 110, 101]).1.key.s), .int .i64 ((parseE [53, 32, 97, 32, 100, 111, 110, 101]).1.op), .slice vA4 ((parseE [53, 32, 97, 32, 100, 111, 110, 101]).1.args.length) vc4, .slice vB4 ((parseE [53, 32, 97, 32, 100, 111, 110, 101]).1.out.length) vd4, .bool ((parseE [53, 32, 97, 32, 100, 111, 110, 101]).1.noted), str ((parseE [53, 32, 97, 32, 100, 111, 110, 101]).1.note)], .int .i64 ((parseE [53, 32, 97, 32, 100, 111, 110, 101]).2)]), (13, .agg #[.int .i64 ((parseE [53, 32, 97, 32, 100, 111, 110, 101]).1.time), .int .i64 ((parseE [53, 32, 97, 32, 100, 111, 110, 101]).1.client.k), .int .i64 ((parseE [53, 32, 97, 32, 100, 111, 110, 101]).1.client.n), str ((parseE [53, 32, 97, 32, 100, 111, 110, 101]).1.client.s), .int .i64 ((parseE [53, 32, 97, 32, 100, 111, 110, 101]).1.type), .int .i64 ((parseE [53, 32, 97, 32, 100, 111, 110, 101]).1.model), .int .i64 ((parseE [53, 32, 97, 32, 100, 111, 110, 101]).1.key.k), .int .i64 ((parseE [53, 32, 97, 32, 100, 111, 110, 101]).1.key.n), str ((parseE [53, 32, 97, 32, 100, 111, 110, 101]).1.key.s), .int .i64 ((parseE [53, 32, 97, 32, 100, 111, 110, 101]).1.op), .slice vA4 ((parseE [53, 32, 97, 32, 100, 111, 110, 101]).1.args.length) vc4, .slice vB4 ((parseE [53, 32, 97, 32, 100, 111, 110, 101]).1.out.length) vd4, .bool ((parseE [53, 32, 97, 32, 100, 111, 110, 101]).1.noted), str ((parseE [53, 32, 97, 32, 100, 111, 110, 101]).1.note)]), (14, .int .i64 ((parseE [53, 32, 97, 32, 100, 111, 110, 101]).2)), (15, .tuple #[.agg #[.int .i64 ((parseE [45, 53, 32, 97, 32, 111, 107]).1.time), .int .i64 ((parseE [45, 53, 32, 97, 32, 111, 107]).1.client.k), .int .i64 ((parseE [45, 53, 32, 97, 32, 111, 107]).1.client.n), str ((parseE [45, 53, 32, 97, 32, 111, 107]).1.client.s), .int .i64 ((parseE [45, 53, 32, 97, 32, 111, 107]).1.type), .int .i64 ((parseE [45, 53, 32, 97, 32, 111, 107]).1.model), .int .i64 ((parseE [45, 53, 32, 97, 32, 111, 107]).1.key.k), .int .i64 ((parseE [45, 53, 32, 97, 32, 111, 107]).1.key.n), str ((parseE [45, 53, 32, 97, 32, 111, 107]).1.key.s), .int .i64 ((parseE [45, 53, 32, 97, 32, 111, 107]).1.op), .slice vA6 ((parseE [45, 53, 32, 97, 32, 111, 107]).1.args.length) vc6, .slice vB6 ((parseE [45, 53, 32, 97, 32, 111, 107]).1.out.length) vd6, .bool ((parseE [45, 53, 32, 97, 32, 111, 107]).1.noted), str ((parseE [45, 53, 32, 97, 32, 111, 107]).1.note)], .int .i64 ((parseE [45, 53, 32, 97, 32, 111, 107]).2)]), (16, .tuple #[.agg #[.int .i64 ((parseE [45, 53, 32, 97, 32, 111, 107]).1.time), .int .i64 ((parseE [45, 53, 32, 97, 32, 111, 107]).1.client.k), .int .i64 ((parseE [45, 53, 32, 97, 32, 111, 107]).1.client.n), str ((parseE [45, 53, 32, 97, 32, 111, 107]).1.client.s), .int .i64 ((parseE [45, 53, 32, 97, 32, 111, 107]).1.type), .int .i64 ((parseE [45, 53, 32, 97, 32, 111, 107]).1.model), .int .i64 ((parseE [45, 53, 32, 97, 32, 111, 107]).1.key.k), .int .i64 ((parseE [45, 53, 32, 97, 32, 111, 107]).1.key.n), str ((parseE [45, 53, 32, 97, 32, 111, 107]).1.key.s), .int .i64 ((parseE [45, 53, 32, 97, 32, 111, 107]).1.op), .slice vA6 ((parseE [45, 53, 32, 97, 32, 111, 107]).1.args.length) vc6, .slice vB6 ((parseE [45, 53, 32, 97, 32, 111, 107]).1.out.length) vd6, .bool ((parseE [45, 53, 32, 97, 32, 111, 107]).1.noted), str ((parseE [45, 53, 32, 97, 32, 111, 107]).1.note)], .int .i64 ((parseE [45, 53, 32, 97, 32, 111, 107]).2)]), (17, .agg #[.int .i64 ((parseE [45, 53, 32, 97, 32, 111, 107]).1.time), .int .i64 ((parseE [45, 53, 32, 97, 32, 111, 107]).1.client.k), .int .i64 ((parseE [45, 53, 32, 97, 32, 111, 107]).1.client.n), str ((parseE [45, 53, 32, 97, 32, 111, 107]).1.client.s), .int .i64 ((parseE [45, 53, 32, 97, 32, 111, 107]).1.type), .int .i64 ((parseE [45, 53, 32, 97, 32, 111, 107]).1.model), .int .i64 ((parseE [45, 53, 32, 97, 32, 111, 107]).1.key.k), .int .i64 ((parseE [45, 53, 32, 97, 32, 111, 107]).1.key.n), str ((parseE [45, 53, 32, 97, 32, 111, 107]).1.key.s), .int .i64 ((parseE [45, 53, 32, 97, 32, 111, 107]).1.op), .slice vA6 ((parseE [45, 53, 32, 97, 32, 111, 107]).1.args.length) vc6, .slice vB6 ((parseE [45, 53, 32, 97, 32, 111, 107]).1.out.length) vd6, .bool ((parseE [45, 53, 32, 97, 32, 111, 107]).1.noted), str ((parseE [45, 53, 32, 97, 32, 111, 107]).1.note)]), (18, .int .i64 ((parseE [45, 53, 32, 97, 32, 111, 107]).2))]) ?_ ?_
 ·refine (Bool.eq_false_or_eq_true ((((decide (((parseE [53, 32, 97, 32, 111, 107, 32, 51]).2) = 0)) && (decide (((parseE [53, 32, 97, 32, 111, 107, 32, 51]).1.type) = 2))) && (decide (((parseE [53, 32, 97, 32, 111, 107, 32, 51]).1.out.length : Int) = 1))) && (decide (((parseE [53, 32, 97, 32, 100, 111, 110, 101]).2) = 2)))).elim (fun hb17 => ?_) (fun hb17 => ?_)
  ·skip
   have hk18 := hb17; try simp only [zz1, zz2, zz3, zz4, zz5, zz7, zz8, zz9, zza, zzb] at hk18
   refine op_on HE rfl rfl hb17 ?_
   refine o_move HE rfl rfl ?_; clear HE; intro a HE
   refine op_on HE rfl rfl hb17 ?_
   refine o_eqI HE rfl rfl rfl ?_; clear HE; intro a HE
   refine o_pick_t HE rfl rfl hb17 rfl ?_; clear HE; intro a HE
   exact ⟨rfl, HE.cut ⟨by rw [hb17]; rfl, rfl, rfl, rfl, rfl, rfl, rfl, rfl, rfl, rfl, rfl, rfl, rfl, rfl, rfl, rfl, rfl, trivial⟩⟩
  ·skip
   have hk19 := hb17; try simp only [zz1, zz2, zz3, zz4, zz5, zz7, zz8, zz9, zza, zzb] at hk19
   refine g_off HE rfl rfl rfl hb17 ?_; clear HE; intro a HE
   refine g_off HE rfl rfl rfl hb17 ?_; clear HE; intro a HE
   refine o_pick_f HE rfl rfl hb17 rfl ?_; clear HE; intro a HE
   exact ⟨rfl, HE.cut ⟨by rw [hb17]; rfl, rfl, rfl, rfl, rfl, rfl, rfl, rfl, rfl, rfl, rfl, rfl, rfl, rfl, rfl, rfl, rfl, trivial⟩⟩
 clear HE; rintro a _ ⟨rfl, HE⟩
 refine o_assign HE rfl rfl ?_; clear HE; intro a HE
 refine hK _ _ ?_; clear hK K
 refine wp_ret ?_
 show Q .ret _ _
 refine ret hQ HE rfl (HE.res rfl .nil) ⟨_, _, HS.stop (List.nil_sublist _), rfl, ?_⟩
 show _ = _
 simp only [packed, Value.bool.injEq]
 decide +kernel

/-! `incognito/incognitolaw10.EventNotes` -/
set_option maxRecDepth 100000 in
set_option maxHeartbeats 4000000 in
theorem law_EventNotes (s note : Bs) (w0 : World) (G : Heap) (hG : Sub G w0) (m8 : Int) (h8 : CellsAt G 8 0 [.int .i64 m8]) (hg0 : CellsAt G 3 0 [.int .i64 3, .int .i64 1, str []]) (hg1 : CellsAt G 6 0 [.int .i64 3, .int .i64 0, str []]) (hgm : CellsAt G 4 0 [str [], str [114, 101, 103], str [99, 97, 115], str [115, 101, 116], str [109, 97, 112], str [102, 105, 102, 111], str [115, 116, 97, 99, 107], str [108, 111, 99, 107], str [99, 111, 117, 110, 116], str [109, 97, 120], str [111, 109, 97, 112]]) (hgo : CellsAt G 5 0 [str [], str [119, 114, 105, 116, 101], str [114, 101, 97, 100], str [115, 119, 97, 112], str [97, 100, 100], str [100, 101, 108], str [104, 97, 115], str [112, 117, 116], str [103, 101, 116], str [112, 117, 115, 104], str [112, 111, 112], str [116, 97, 107, 101], str [102, 114, 101, 101], str [115, 99, 97, 110]]) (hgn : CellsAt G 2 0 [str [], str [105, 110, 118, 111, 107, 101], str [111, 107], str [102, 97, 105, 108], str [105, 110, 102, 111]]):
  Calls Tryd.prog 8 #[str s, str note] w0 (Ret w0 G (fun v _ => v = .bool true)) := by
 refine enter Tryd.func8 rfl Tryd.ntmps8 rfl ?_
 intro Q hQ a HE
 have HS := St.start0 hG
 refine wp_seq_k (fun K hK => ?_); refine wp_region_lit ?_
 refine o_assign HE rfl rfl ?_; clear HE; intro a HE
 refine hK _ _ ?_; clear hK K
 refine wp_seq_k (fun K3 hK2 => ?_)
 refine wp_seq_k (fun K hK => ?_); refine wp_region_lit ?_
 refine o_callP HE rfl HS rfl rfl T.g21 (c_wakes10 _ _ HS.sub m8 h8 hg0 hg1 hgm hgo hgn) ?_
 clear HE HS; rintro _ w a HS rfl HE
 refine o_not HE rfl rfl ?_; clear HE; intro a HE
 refine hK _ _ ?_; clear hK K
 refine cond HE rfl (fun h5 => ?_) (fun h5 => ?_)
 ·have h5r := h5; try simp only [zz1, zz2, zz3, zz4, zz5, zz6, zz7, zz8, zz9, zza, zzb] at h5
  refine wp_seq_k (fun K hK => ?_); refine wp_region_lit ?_
  refine o_assign HE rfl rfl ?_; clear HE; intro a HE
  refine hK _ _ ?_; clear hK K
  refine wp_ret ?_
  show Q .ret _ _
  refine ret hQ HE rfl (HE.res rfl .nil) ⟨_, _, HS.stop (List.nil_sublist _), rfl, ?_⟩
  exact absurd h5r (by decide)
 ·have h5r := h5; try simp only [zz1, zz2, zz3, zz4, zz5, zz6, zz7, zz8, zz9, zza, zzb] at h5
  refine wp_skip ?_
  refine hK2 _ _ ?_; clear hK2
  refine wp_seq_k (fun K8 hK7 => ?_)
  refine wp_seq_k (fun K hK => ?_); refine wp_region_lit ?_
  refine o_move HE rfl rfl ?_; clear HE; intro a HE
  refine o_lenS HE rfl rfl Tryd.underlying9 ?_; clear HE; intro a HE
  refine o_gtr HE rfl rfl rfl ?_; clear HE; intro a HE
  refine o_move HE rfl rfl ?_; clear HE; intro a HE
  refine cutL 4 (fun a' w' => w = w' ∧ Env a' 66 [] [(20, .bool ((decide (1000 < (s.length : Int))) || (decide (100 < (note.length : Int))))), (0, str s), (1, str note), (4, .bool false), (11, .bool true), (12, .bool (!true))]) ?_ ?_
  ·refine (Bool.eq_false_or_eq_true (decide (1000 < (s.length : Int)))).elim (fun hb9 => ?_) (fun hb9 => ?_)
   ·skip
    have hk10 := hb9; try simp only [zz1, zz2, zz3, zz4, zz5, zz7, zz8, zz9, zza, zzb] at hk10
    refine g_off HE rfl rfl rfl hb9 ?_; clear HE; intro a HE
    refine g_off HE rfl rfl rfl hb9 ?_; clear HE; intro a HE
    refine g_off HE rfl rfl rfl hb9 ?_; clear HE; intro a HE
    refine o_pick_t HE rfl rfl hb9 rfl ?_; clear HE; intro a HE
    exact ⟨rfl, HE.cut ⟨by rw [hb9]; rfl, rfl, rfl, rfl, rfl, rfl, trivial⟩⟩
   ·skip
    have hk11 := hb9; try simp only [zz1, zz2, zz3, zz4, zz5, zz7, zz8, zz9, zza, zzb] at hk11
    refine op_on HE rfl rfl hb9 ?_
    refine o_move HE rfl rfl ?_; clear HE; intro a HE
    refine op_on HE rfl rfl hb9 ?_
    refine o_lenS HE rfl rfl Tryd.underlying9 ?_; clear HE; intro a HE
    refine op_on HE rfl rfl hb9 ?_
    refine o_gtr HE rfl rfl rfl ?_; clear HE; intro a HE
    refine o_pick_f HE rfl rfl hb9 rfl ?_; clear HE; intro a HE
    exact ⟨rfl, HE.cut ⟨by rw [hb9]; rfl, rfl, rfl, rfl, rfl, rfl, trivial⟩⟩
  clear HE; rintro a _ ⟨rfl, HE⟩
  refine hK _ _ ?_; clear hK K
  refine cond HE rfl (fun h13 => ?_) (fun h13 => ?_)
  ·have h13r := h13; try simp only [zz1, zz2, zz3, zz4, zz5, zz6, zz7, zz8, zz9, zza, zzb] at h13
   refine wp_seq_k (fun K hK => ?_); refine wp_region_lit ?_
   refine o_assign HE rfl rfl ?_; clear HE; intro a HE
   refine hK _ _ ?_; clear hK K
   refine wp_ret ?_
   show Q .ret _ _
   refine ret hQ HE rfl (HE.res rfl .nil) ⟨_, _, HS.stop (List.nil_sublist _), rfl, ?_⟩
   show _ = _
   rfl
  ·have h13r := h13; try simp only [zz1, zz2, zz3, zz4, zz5, zz6, zz7, zz8, zz9, zza, zzb] at h13
   refine wp_skip ?_
   refine hK7 _ _ ?_; clear hK7
   refine wp_seq_k (fun K16 hK15 => ?_)
   refine wp_seq_k (fun K hK => ?_); refine wp_region_lit ?_
   refine o_move HE rfl rfl ?_; clear HE; intro a HE
   refine o_lenS HE rfl rfl Tryd.underlying9 ?_; clear HE; intro a HE
   refine o_move HE rfl rfl ?_; clear HE; intro a HE
   refine hK _ _ ?_; clear hK K
   refine wp_block ?_
   refine loop (fun (i : Nat) a' w' => St w0 G [] G w' [] ∧ Env a' 66 [] [(0, str s), (1, str note), (22, .int .i64 (note.length : Int)), (23, .int .i64 ((i : Nat) : Int))] ∧ (∃ hi : i ≤ note.length, ∀ j (hj : j < i), ¬ note[j]'(by omega) = 10)) (fun (i : Nat) => note.length - i) 0 ⟨HS, HE.cut ⟨rfl, rfl, rfl, rfl, trivial⟩, ⟨Nat.zero_le _, fun j hj => absurd hj (Nat.not_lt_zero _)⟩⟩ ?_
   clear HE HS; intro i a w ⟨HS, HE, ⟨hi, ha⟩⟩
   refine wp_seq_k (fun K hK => ?_); refine wp_region_lit ?_
   refine o_lss HE rfl rfl rfl ?_; clear HE; intro a HE
   refine hK _ _ ?_; clear hK K
   refine wp_seq_k (fun K21 hK20 => ?_)
   refine cond HE rfl (fun h22 => ?_) (fun h22 => ?_)
   ·have h22r := h22; try simp only [zz1, zz2, zz3, zz4, zz5, zz6, zz7, zz8, zz9, zza, zzb] at h22
    refine wp_skip ?_
    refine hK20 _ _ ?_; clear hK20
    refine wp_seq_k (fun K24 hK23 => ?_)
    refine wp_block ?_
    refine wp_seq_k (fun K hK => ?_); refine wp_region_lit ?_
    refine o_move HE rfl rfl ?_; clear HE; intro a HE
    refine o_assign HE rfl rfl ?_; clear HE; intro a HE
    refine hK _ _ ?_; clear hK K
    refine wp_seq_k (fun K hK => ?_); refine wp_region_lit ?_
    refine o_move HE rfl rfl ?_; clear HE; intro a HE
    refine o_move HE rfl rfl ?_; clear HE; intro a HE
    refine o_index HE rfl rfl rfl Tryd.underlying9 (by omega) ?_; clear HE; intro a HE
    refine o_eqI HE rfl rfl rfl ?_; clear HE; intro a HE
    refine hK _ _ ?_; clear hK K
    refine cond HE rfl (fun h27 => ?_) (fun h27 => ?_)
    ·have h27r := h27; try simp only [zz1, zz2, zz3, zz4, zz5, zz6, zz7, zz8, zz9, zza, zzb] at h27
     refine wp_seq_k (fun K hK => ?_); refine wp_region_lit ?_
     refine o_assign HE rfl rfl ?_; clear HE; intro a HE
     refine hK _ _ ?_; clear hK K
     refine wp_ret ?_
     show Q .ret _ _
     refine ret hQ HE rfl (HE.res rfl .nil) ⟨_, _, HS.stop (List.nil_sublist _), rfl, ?_⟩
     show _ = _
     rfl
    ·have h27r := h27; try simp only [zz1, zz2, zz3, zz4, zz5, zz6, zz7, zz8, zz9, zza, zzb] at h27
     refine wp_skip ?_
     refine hK23 _ _ ?_; clear hK23
     refine wp_region_lit ?_
     refine o_add HE rfl rfl rfl (by omega) ?_; clear HE; intro a HE
     refine o_move HE rfl rfl ?_; clear HE; intro a HE
     have hb := bNo8 (c := 10) (n := i) (s := note) (by omega) (by simpa using h27)
     have ha2 : ∀ j (hj : j < i + 1), ¬ note[j]'(by omega) = 10 := by
      intro j hj
      rcases Nat.lt_or_ge j i with h9 | h9
      ·exact ha j h9
      ·obtain rfl : j = i := by omega
       exact hb
     exact ⟨i + 1, ⟨HS, HE.cut ⟨rfl, rfl, rfl, rfl, trivial⟩, ⟨by omega, ha2⟩⟩, by omega⟩
   ·have h22r := h22; try simp only [zz1, zz2, zz3, zz4, zz5, zz6, zz7, zz8, zz9, zza, zzb] at h22
    refine wp_exit ?_
    refine hK15 _ _ ?_; clear hK15
    refine wp_seq_k (fun K30 hK29 => ?_)
    refine wp_seq_k (fun K hK => ?_); refine wp_region_lit ?_
    have hi1 : ∀ j (hj : j < note.length), ¬ note[j] = 10 := fun j hj => ha j (by omega)
    have hn100 : note.length ≤ 100 := by omega
    clear ha
    refine o_move HE rfl rfl ?_; clear HE; intro a HE
    refine o_lenS HE rfl rfl Tryd.underlying9 ?_; clear HE; intro a HE
    refine o_move HE rfl rfl ?_; clear HE; intro a HE
    refine hK _ _ ?_; clear hK K
    refine wp_block ?_
    refine loop (fun (k : Nat) a' w' => St w0 G [] G w' [] ∧ Env a' 66 [] [(0, str s), (1, str note), (32, .int .i64 (s.length : Int)), (33, .int .i64 ((k : Nat) : Int))] ∧ (∃ hi : k ≤ s.length, ∀ j (hj : j < k), ¬ s[j]'(by omega) = 59)) (fun (k : Nat) => s.length - k) 0 ⟨HS, HE.cut ⟨rfl, rfl, rfl, rfl, trivial⟩, ⟨Nat.zero_le _, fun j hj => absurd hj (Nat.not_lt_zero _)⟩⟩ ?_
    clear HE HS; intro k a w ⟨HS, HE, ⟨hk, ha⟩⟩
    refine wp_seq_k (fun K hK => ?_); refine wp_region_lit ?_
    refine o_lss HE rfl rfl rfl ?_; clear HE; intro a HE
    refine hK _ _ ?_; clear hK K
    refine wp_seq_k (fun K35 hK34 => ?_)
    refine cond HE rfl (fun h36 => ?_) (fun h36 => ?_)
    ·have h36r := h36; try simp only [zz1, zz2, zz3, zz4, zz5, zz6, zz7, zz8, zz9, zza, zzb] at h36
     refine wp_skip ?_
     refine hK34 _ _ ?_; clear hK34
     refine wp_seq_k (fun K38 hK37 => ?_)
     refine wp_block ?_
     refine wp_seq_k (fun K hK => ?_); refine wp_region_lit ?_
     refine o_move HE rfl rfl ?_; clear HE; intro a HE
     refine o_assign HE rfl rfl ?_; clear HE; intro a HE
     refine hK _ _ ?_; clear hK K
     refine wp_seq_k (fun K hK => ?_); refine wp_region_lit ?_
     refine o_move HE rfl rfl ?_; clear HE; intro a HE
     refine o_move HE rfl rfl ?_; clear HE; intro a HE
     refine o_index HE rfl rfl rfl Tryd.underlying9 (by omega) ?_; clear HE; intro a HE
     refine o_eqI HE rfl rfl rfl ?_; clear HE; intro a HE
     refine hK _ _ ?_; clear hK K
     refine cond HE rfl (fun h41 => ?_) (fun h41 => ?_)
     ·have h41r := h41; try simp only [zz1, zz2, zz3, zz4, zz5, zz6, zz7, zz8, zz9, zza, zzb] at h41
      refine wp_seq_k (fun K hK => ?_); refine wp_region_lit ?_
      refine o_assign HE rfl rfl ?_; clear HE; intro a HE
      refine hK _ _ ?_; clear hK K
      refine wp_ret ?_
      show Q .ret _ _
      refine ret hQ HE rfl (HE.res rfl .nil) ⟨_, _, HS.stop (List.nil_sublist _), rfl, ?_⟩
      show _ = _
      rfl
     ·have h41r := h41; try simp only [zz1, zz2, zz3, zz4, zz5, zz6, zz7, zz8, zz9, zza, zzb] at h41
      refine wp_skip ?_
      refine hK37 _ _ ?_; clear hK37
      refine wp_region_lit ?_
      refine o_add HE rfl rfl rfl (by omega) ?_; clear HE; intro a HE
      refine o_move HE rfl rfl ?_; clear HE; intro a HE
      have hb := bNo8 (c := 59) (n := k) (s := s) (by omega) (by simpa using h41)
      have ha2 : ∀ j (hj : j < k + 1), ¬ s[j]'(by omega) = 59 := by
       intro j hj
       rcases Nat.lt_or_ge j k with h9 | h9
       ·exact ha j h9
       ·obtain rfl : j = k := by omega
        exact hb
      exact ⟨k + 1, ⟨HS, HE.cut ⟨rfl, rfl, rfl, rfl, trivial⟩, ⟨by omega, ha2⟩⟩, by omega⟩
    ·have h36r := h36; try simp only [zz1, zz2, zz3, zz4, zz5, zz6, zz7, zz8, zz9, zza, zzb] at h36
     refine wp_exit ?_
     refine hK29 _ _ ?_; clear hK29
     refine wp_seq_k (fun K hK => ?_); refine wp_region_lit ?_
     have hk1 : ∀ j (hj : j < s.length), ¬ s[j] = 59 := fun j hj => ha j (by omega)
     refine o_move HE rfl rfl ?_; clear HE; intro a HE
     refine o_call HE rfl HS rfl rfl T.g22 (c_Parse10 s _ _ HS.sub m8 h8 hg0 hg1 hgm hgo hgn (by first | omega | (simp; done) | (simp; omega) | (have := note_len s; omega))) ?_
     clear HE HS; rintro _ G43 w a HS hle43 ⟨vA43, vc43, vB43, vd43, rfl, hap43, hA43, hbp43, hB43⟩ HE
     replace h8 := h8.le hle43
     replace hg0 := hg0.le hle43
     replace hg1 := hg1.le hle43
     replace hgm := hgm.le hle43
     replace hgo := hgo.le hle43
     replace hgn := hgn.le hle43
     refine o_move HE rfl rfl ?_; clear HE; intro a HE
     refine o_extract HE rfl rfl rfl ?_; clear HE; intro a HE
     refine o_extract HE rfl rfl rfl ?_; clear HE; intro a HE
     refine o_allocL [(0, _), (1, _), (2, _), (3, _), (4, _), (5, _), (6, _), (7, _), (8, _), (9, _), (10, _), (11, _), (12, _), (13, _)] HE rfl HS T.z44 ⟨rfl, rfl, rfl, rfl, rfl, rfl, rfl, rfl, rfl, rfl, rfl, rfl, rfl, rfl, trivial⟩ ?_; clear HE HS; intro B7 w a HS HE
     refine o_stA HE HS rfl rfl rfl T.a44 (.here .here) rfl ?_; clear HS; intro w HS
     refine o_assign HE rfl rfl ?_; clear HE; intro a HE
     refine hK _ _ ?_; clear hK K
     refine wp_seq_k (fun K hK => ?_); refine wp_region_lit ?_
     refine o_move HE rfl rfl ?_; clear HE; intro a HE
     refine o_cat HE rfl rfl rfl (by simp; omega) ?_; clear HE; intro a HE
     refine o_move HE rfl rfl ?_; clear HE; intro a HE
     refine o_cat HE rfl rfl rfl (by simp; omega) ?_; clear HE; intro a HE
     refine o_call HE rfl HS rfl rfl T.g22 (c_Parse10 ((s ++ [32, 59]) ++ note) _ _ HS.sub m8 h8 hg0 hg1 hgm hgo hgn (by first | omega | (simp; done) | (simp; omega) | (have := note_len s; omega))) ?_
     clear HE HS; rintro _ G45 w a HS hle45 ⟨vA45, vc45, vB45, vd45, rfl, hap45, hA45, hbp45, hB45⟩ HE
     replace h8 := h8.le hle45
     replace hg0 := hg0.le hle45
     replace hg1 := hg1.le hle45
     replace hgm := hgm.le hle45
     replace hgo := hgo.le hle45
     replace hgn := hgn.le hle45
     replace hA43 := hA43.le hle45
     replace hB43 := hB43.le hle45
     refine o_move HE rfl rfl ?_; clear HE; intro a HE
     refine o_extract HE rfl rfl rfl ?_; clear HE; intro a HE
     refine o_extract HE rfl rfl rfl ?_; clear HE; intro a HE
     refine o_allocL [(0, _), (1, _), (2, _), (3, _), (4, _), (5, _), (6, _), (7, _), (8, _), (9, _), (10, _), (11, _), (12, _), (13, _)] HE rfl HS T.z44 ⟨rfl, rfl, rfl, rfl, rfl, rfl, rfl, rfl, rfl, rfl, rfl, rfl, rfl, rfl, trivial⟩ ?_; clear HE HS; intro B9 w a HS HE
     refine o_stA HE HS rfl rfl rfl T.a44 (.here .here) rfl ?_; clear HS; intro w HS
     refine o_assign HE rfl rfl ?_; clear HE; intro a HE
     refine hK _ _ ?_; clear hK K
     refine wp_seq_k (fun K48 hK47 => ?_)
     refine wp_seq_k (fun K hK => ?_); refine wp_region_lit ?_
     refine o_move HE rfl rfl ?_; clear HE; intro a HE
     refine o_move HE rfl rfl ?_; clear HE; intro a HE
     refine o_neI HE rfl rfl rfl ?_; clear HE; intro a HE
     refine hK _ _ ?_; clear hK K
     refine cond HE rfl (fun h50 => ?_) (fun h50 => ?_)
     ·have h50r := h50; try simp only [zz1, zz2, zz3, zz4, zz5, zz6, zz7, zz8, zz9, zza, zzb] at h50
      refine wp_seq_k (fun K hK => ?_); refine wp_region_lit ?_
      refine o_assign HE rfl rfl ?_; clear HE; intro a HE
      refine hK _ _ ?_; clear hK K
      refine wp_ret ?_
      show Q .ret _ _
      refine ret hQ HE rfl (HE.res rfl .nil) ⟨_, _, HS.stop (List.nil_sublist _), rfl, ?_⟩
      have hnn := notes_law hk1 hi1 hn100
      exact absurd hnn.1.symm (by simpa using h50)
     ·have h50r := h50; try simp only [zz1, zz2, zz3, zz4, zz5, zz6, zz7, zz8, zz9, zza, zzb] at h50
      refine wp_skip ?_
      refine hK47 _ _ ?_; clear hK47
      refine wp_seq_k (fun K53 hK52 => ?_)
      refine wp_seq_k (fun K hK => ?_); refine wp_region_lit ?_
      refine o_move HE rfl rfl ?_; clear HE; intro a HE
      refine o_neI HE rfl rfl rfl ?_; clear HE; intro a HE
      refine hK _ _ ?_; clear hK K
      refine cond HE rfl (fun h55 => ?_) (fun h55 => ?_)
      ·have h55r := h55; try simp only [zz1, zz2, zz3, zz4, zz5, zz6, zz7, zz8, zz9, zza, zzb] at h55
       refine wp_seq_k (fun K hK => ?_); refine wp_region_lit ?_
       refine o_assign HE rfl rfl ?_; clear HE; intro a HE
       refine hK _ _ ?_; clear hK K
       refine wp_ret ?_
       show Q .ret _ _
       refine ret hQ HE rfl (HE.res rfl .nil) ⟨_, _, HS.stop (List.nil_sublist _), rfl, ?_⟩
       show _ = _
       rfl
      ·have h55r := h55; try simp only [zz1, zz2, zz3, zz4, zz5, zz6, zz7, zz8, zz9, zza, zzb] at h55
       refine wp_skip ?_
       refine hK52 _ _ ?_; clear hK52
       refine wp_seq_k (fun K hK => ?_); refine wp_region_lit ?_
       refine o_fld HE rfl rfl T.f44_8 ?_; clear HE; intro a HE
       refine o_st HE HS rfl rfl rfl T.s4 (.here .here) rfl ?_; clear HS; intro w HS
       refine o_fld HE rfl rfl T.f44_9 ?_; clear HE; intro a HE
       refine o_st HE HS rfl rfl rfl T.s9 (.here .here) rfl ?_; clear HS; intro w HS
       refine o_fld HE rfl rfl T.f44_8 ?_; clear HE; intro a HE
       refine o_st HE HS rfl rfl rfl T.s4 (.there (.here .here)) rfl ?_; clear HS; intro w HS
       refine o_fld HE rfl rfl T.f44_9 ?_; clear HE; intro a HE
       refine o_st HE HS rfl rfl rfl T.s9 (.there (.here .here)) rfl ?_; clear HS; intro w HS
       refine hK _ _ ?_; clear hK K
       refine wp_seq_k (fun K hK => ?_); refine wp_region_lit ?_
       refine o_ldA HE rfl HS rfl T.a44 (.there (.here .here)) rfl ?_; clear HE; intro a HE
       refine o_ldA HE rfl HS rfl T.a44 (.here .here) rfl ?_; clear HE; intro a HE
       refine o_callP HE rfl HS rfl rfl T.g24 (c_SameE (⟨(parseE s).1.time, ((parseE s).1.client), (parseE s).1.type, (parseE s).1.model, ((parseE s).1.key), (parseE s).1.op, (parseE s).1.args, (parseE s).1.out, false, []⟩ : Evt) (⟨(parseE ((s ++ [32, 59]) ++ note)).1.time, ((parseE ((s ++ [32, 59]) ++ note)).1.client), (parseE ((s ++ [32, 59]) ++ note)).1.type, (parseE ((s ++ [32, 59]) ++ note)).1.model, ((parseE ((s ++ [32, 59]) ++ note)).1.key), (parseE ((s ++ [32, 59]) ++ note)).1.op, (parseE ((s ++ [32, 59]) ++ note)).1.args, (parseE ((s ++ [32, 59]) ++ note)).1.out, false, []⟩ : Evt) _ _ _ _ _ _ _ _ _ _ HS.sub hA43 hB43 (by first | omega | (simp; done) | exact parse_args (by first | omega | (simp; omega)) | exact parse_out (by first | omega | (simp; omega))) (by first | omega | (simp; done) | exact parse_args (by first | omega | (simp; omega)) | exact parse_out (by first | omega | (simp; omega))) hA45 hB45 (by first | omega | (simp; done) | exact parse_args (by first | omega | (simp; omega)) | exact parse_out (by first | omega | (simp; omega))) (by first | omega | (simp; done) | exact parse_args (by first | omega | (simp; omega)) | exact parse_out (by first | omega | (simp; omega)))) ?_
       clear HE HS; rintro _ w a HS rfl HE
       refine o_assign HE rfl rfl ?_; clear HE; intro a HE
       refine hK _ _ ?_; clear hK K
       refine wp_ret ?_
       show Q .ret _ _
       refine ret hQ HE rfl (HE.res rfl .nil) ⟨_, _, HS.stop (List.nil_sublist _), rfl, ?_⟩
       have hnn := notes_law hk1 hi1 hn100
       show _ = _
       simp only [packed, Value.bool.injEq]
       exact decide_eq_true (hnn.2 (by simpa using h55))
end Go.Proofs.YtiinipcmghhacaaDoor.T10
