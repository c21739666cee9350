/- Own text. -/
import Derived.Test.YthhcgkcnebchhaaDoorX16
import Derived.Test.YthhcgkcnebchhaaDoorShelf
import Derived.Test.YthhcgkcnebchhaaDoorN1
import Derived.Test.YthhcgkcnebchhaaDoorN2
import Derived.Test.YthhcgkcnebchhaaDoorN4
import Derived.Test.YthhcgkcnebchhaaDoorA3
import Derived.Test.YthhcgkcnebchhaaDoorProg
set_option linter.unusedVariables false
set_option linter.unusedSimpArgs false
namespace Go.Proofs.YthhcgkcnebchhaaDoor.T3
open Go Go.Proofs.YthhcgkcnebchhaaDoor.X
/-! `incognito/incognitolaw07.ValueOrder` -/
set_option maxRecDepth 100000 in
set_option maxHeartbeats 4000000 in
theorem law_ValueOrder (x y z : Val) (w0 : World) (G : Heap) (hG : Sub G w0) (hg0 : CellsAt G 0 0 [.int .i64 3, .int .i64 1, str []]) (hg1 : CellsAt G 1 0 [.int .i64 3, .int .i64 0, str []]):
    Calls Tryd.prog 4 #[.agg #[.int .i64 x.k, .int .i64 x.n, str x.s], .agg #[.int .i64 y.k, .int .i64 y.n, str y.s], .agg #[.int .i64 z.k, .int .i64 z.n, str z.s]] w0 (Ret w0 G (fun v _ => v = .bool true)) := by
  refine enter Tryd.func4 rfl Tryd.ntmps4 rfl ?_
  intro Q hQ a HE
  have HS := St.start0 hG
  refine wp_seq_k (fun K hK => ?_); refine wp_region_lit ?_
  refine o_boxL [(0, _), (1, _), (2, _)] HE rfl HS rfl ⟨rfl, rfl, rfl, trivial⟩ ?_; clear HE HS; intro B3 w a HS HE
  refine o_boxL [(0, _), (1, _), (2, _)] HE rfl HS rfl ⟨rfl, rfl, rfl, trivial⟩ ?_; clear HE HS; intro B4 w a HS HE
  refine o_boxL [(0, _), (1, _), (2, _)] HE rfl HS rfl ⟨rfl, rfl, rfl, trivial⟩ ?_; clear HE HS; intro B5 w a HS HE
  refine o_assign HE rfl rfl ?_; clear HE; intro a HE
  refine hK _ _ ?_; clear hK K
  refine wp_seq_k (fun K3 hK2 => ?_)
  refine wp_seq_k (fun K hK => ?_); refine wp_region_lit ?_
  refine o_callP HE rfl HS rfl rfl T.g10 (c_wakes7 _ _ HS.sub hg0 hg1) ?_
  clear HE HS; rintro _ w a HS rfl HE
  refine o_not HE rfl rfl ?_; clear HE; intro a HE
  refine hK _ _ ?_; clear hK K
  refine cond HE rfl (fun h5 => ?_) (fun h5 => ?_)
  · have h5r := h5; try simp only [Bool.not_eq_true', Bool.not_eq_false', Bool.and_eq_true, Bool.or_eq_true, Bool.or_eq_false_iff, Bool.and_eq_false_iff, decide_eq_true_eq, decide_eq_false_iff_not, beq_iff_eq, beq_eq_false_iff_ne, ne_eq] at h5
    refine wp_seq_k (fun K hK => ?_); refine wp_region_lit ?_
    refine o_assign HE rfl rfl ?_; clear HE; intro a HE
    refine hK _ _ ?_; clear hK K
    refine wp_ret ?_
    show Q .ret _ _
    refine ret hQ HE rfl (HE.res rfl .nil) ⟨_, _, HS.stop (List.nil_sublist _), rfl, ?_⟩
    exact absurd h5r (by decide)
  · have h5r := h5; try simp only [Bool.not_eq_true', Bool.not_eq_false', Bool.and_eq_true, Bool.or_eq_true, Bool.or_eq_false_iff, Bool.and_eq_false_iff, decide_eq_true_eq, decide_eq_false_iff_not, beq_iff_eq, beq_eq_false_iff_ne, ne_eq] at h5
    refine wp_skip ?_
    refine hK2 _ _ ?_; clear hK2
    refine wp_seq_k (fun K8 hK7 => ?_)
    refine wp_seq_k (fun K hK => ?_); refine wp_region_lit ?_
    refine o_ldA HE rfl HS rfl T.a25 (.there (.there (.here .here))) rfl ?_; clear HE; intro a HE
    refine o_ldA HE rfl HS rfl T.a25 (.there (.here .here)) rfl ?_; clear HE; intro a HE
    refine o_ldA HE rfl HS rfl T.a25 (.here .here) rfl ?_; clear HE; intro a HE
    refine o_buildSl (cs := #[.int .i64 x.k, .int .i64 x.n, str x.s, .int .i64 y.k, .int .i64 y.n, str y.s, .int .i64 z.k, .int .i64 z.n, str z.s]) [(0, _), (1, _), (2, _), (3, _), (4, _), (5, _), (6, _), (7, _), (8, _)] HE rfl HS rfl T.l46 (by kernel_rfl) ⟨rfl, rfl, rfl, rfl, rfl, rfl, rfl, rfl, rfl, trivial⟩ ?_; clear HE HS; intro B16 w a HS HE
    obtain ⟨G9, hle11, hC10, HS'⟩ := HS.stillHead (n := 9) rfl; clear HS; have HS := HS'; clear HS'
    replace hg0 := hg0.le hle11
    replace hg1 := hg1.le hle11
    have hW12 := Rd.ofCells (K := kVal) (xs := [x, y, z]) hC10 ⟨rfl, rfl, rfl, rfl⟩
    refine o_call HE rfl HS rfl rfl T.g13 (c_great [x, y, z] _ _ _ _ HS.sub hW12 (by simp)) ?_
    clear HE HS; rintro _ G15 w a HS hle14 ⟨gb13, rfl⟩ HE
    replace hg0 := hg0.le hle14
    replace hg1 := hg1.le hle14
    replace hC10 := hC10.le hle14
    replace hW12 := hW12.le hle14
    refine hK _ _ ?_; clear hK K
    refine cond HE rfl (fun h17 => ?_) (fun h17 => ?_)
    · have h17r := h17; try simp only [Bool.not_eq_true', Bool.not_eq_false', Bool.and_eq_true, Bool.or_eq_true, Bool.or_eq_false_iff, Bool.and_eq_false_iff, decide_eq_true_eq, decide_eq_false_iff_not, beq_iff_eq, beq_eq_false_iff_ne, ne_eq] at h17
      refine wp_seq_k (fun K hK => ?_); refine wp_region_lit ?_
      refine o_assign HE rfl rfl ?_; clear HE; intro a HE
      refine hK _ _ ?_; clear hK K
      refine wp_ret ?_
      show Q .ret _ _
      refine ret hQ HE rfl (HE.res rfl .nil) ⟨_, _, HS.stop (List.nil_sublist _), rfl, ?_⟩
      show _ = _
      rfl
    · have h17r := h17; try simp only [Bool.not_eq_true', Bool.not_eq_false', Bool.and_eq_true, Bool.or_eq_true, Bool.or_eq_false_iff, Bool.and_eq_false_iff, decide_eq_true_eq, decide_eq_false_iff_not, beq_iff_eq, beq_eq_false_iff_ne, ne_eq] at h17
      refine wp_skip ?_
      refine hK7 _ _ ?_; clear hK7
      refine wp_seq_k (fun K20 hK19 => ?_)
      replace HE := HE.cut (L' := [(0, .agg #[.int .i64 x.k, .int .i64 x.n, str x.s]), (1, .agg #[.int .i64 y.k, .int .i64 y.n, str y.s]), (2, .agg #[.int .i64 z.k, .int .i64 z.n, str z.s]), (3, .pointer (some ⟨B3, 0, none⟩)), (4, .pointer (some ⟨B4, 0, none⟩)), (5, .pointer (some ⟨B5, 0, none⟩)), (6, .bool false), (11, .bool true), (12, .bool (!true)), (13, .agg #[.int .i64 x.k, .int .i64 x.n, str x.s]), (14, .agg #[.int .i64 y.k, .int .i64 y.n, str y.s]), (15, .agg #[.int .i64 z.k, .int .i64 z.n, str z.s]), (16, .slice (some ⟨B16, 0, none⟩) 3 3), (17, .bool gb13)]) ⟨rfl, rfl, rfl, rfl, rfl, rfl, rfl, rfl, rfl, rfl, rfl, rfl, rfl, rfl, trivial⟩
      refine drawnP [fun v => v = .agg #[.int .i64 x.k, .int .i64 x.n, str x.s], fun v => v = .agg #[.int .i64 y.k, .int .i64 y.n, str y.s], fun v => v = .int .i64 (compareV x y), fun v => v = .agg #[.int .i64 y.k, .int .i64 y.n, str y.s], fun v => v = .agg #[.int .i64 z.k, .int .i64 z.n, str z.s], fun v => v = .int .i64 (compareV y z), fun v => v = .agg #[.int .i64 x.k, .int .i64 x.n, str x.s], fun v => v = .agg #[.int .i64 z.k, .int .i64 z.n, str z.s], fun v => v = .int .i64 (compareV x z), fun v => v = .int .i64 (compareV x y), fun v => v = .int .i64 (compareV y z), fun v => v = .int .i64 (compareV x z)] T.mix rfl HE HS rfl ⟨?_, ?_, ?_, ?_, ?_, ?_, ?_, ?_, ?_, ?_, ?_, ?_, trivial⟩ ?_
      · intro a w G1 hl HS HE hp
        refine o_ldA HE rfl HS rfl T.a25 (.there (.there (.here .here))) rfl ?_; clear HE; intro a HE
        exact ⟨_, _, HS, rfl, HE.get _ _ rfl, HE.defers, rfl⟩
      · intro a w G1 hl HS HE hp
        refine o_ldA HE rfl HS rfl T.a25 (.there (.here .here)) rfl ?_; clear HE; intro a HE
        exact ⟨_, _, HS, rfl, HE.get _ _ rfl, HE.defers, rfl⟩
      · intro a w G1 hl HS HE hp
        obtain ⟨_, e0, rfl⟩ := hp 0 18 _ rfl rfl rfl; replace HE := HE.add e0
        obtain ⟨_, e1, rfl⟩ := hp 1 19 _ rfl rfl rfl; replace HE := HE.add e1
        refine o_callP HE rfl HS rfl rfl T.g14 (c_compare x y _ _ HS.sub) ?_
        clear HE HS; rintro _ w a HS rfl HE
        exact ⟨_, _, HS, rfl, HE.get _ _ rfl, HE.defers, rfl⟩
      · intro a w G1 hl HS HE hp
        refine o_ldA HE rfl HS rfl T.a25 (.there (.here .here)) rfl ?_; clear HE; intro a HE
        exact ⟨_, _, HS, rfl, HE.get _ _ rfl, HE.defers, rfl⟩
      · intro a w G1 hl HS HE hp
        refine o_ldA HE rfl HS rfl T.a25 (.here .here) rfl ?_; clear HE; intro a HE
        exact ⟨_, _, HS, rfl, HE.get _ _ rfl, HE.defers, rfl⟩
      · intro a w G1 hl HS HE hp
        obtain ⟨_, e3, rfl⟩ := hp 3 21 _ rfl rfl rfl; replace HE := HE.add e3
        obtain ⟨_, e4, rfl⟩ := hp 4 22 _ rfl rfl rfl; replace HE := HE.add e4
        refine o_callP HE rfl HS rfl rfl T.g14 (c_compare y z _ _ HS.sub) ?_
        clear HE HS; rintro _ w a HS rfl HE
        exact ⟨_, _, HS, rfl, HE.get _ _ rfl, HE.defers, rfl⟩
      · intro a w G1 hl HS HE hp
        refine o_ldA HE rfl HS rfl T.a25 (.there (.there (.here .here))) rfl ?_; clear HE; intro a HE
        exact ⟨_, _, HS, rfl, HE.get _ _ rfl, HE.defers, rfl⟩
      · intro a w G1 hl HS HE hp
        refine o_ldA HE rfl HS rfl T.a25 (.here .here) rfl ?_; clear HE; intro a HE
        exact ⟨_, _, HS, rfl, HE.get _ _ rfl, HE.defers, rfl⟩
      · intro a w G1 hl HS HE hp
        obtain ⟨_, e6, rfl⟩ := hp 6 24 _ rfl rfl rfl; replace HE := HE.add e6
        obtain ⟨_, e7, rfl⟩ := hp 7 25 _ rfl rfl rfl; replace HE := HE.add e7
        refine o_callP HE rfl HS rfl rfl T.g14 (c_compare x z _ _ HS.sub) ?_
        clear HE HS; rintro _ w a HS rfl HE
        exact ⟨_, _, HS, rfl, HE.get _ _ rfl, HE.defers, rfl⟩
      · intro a w G1 hl HS HE hp
        obtain ⟨_, e2, rfl⟩ := hp 2 20 _ rfl rfl rfl; replace HE := HE.add e2
        refine o_assign HE rfl rfl ?_; clear HE; intro a HE
        exact ⟨_, _, HS, rfl, HE.get _ _ rfl, HE.defers, rfl⟩
      · intro a w G1 hl HS HE hp
        obtain ⟨_, e5, rfl⟩ := hp 5 23 _ rfl rfl rfl; replace HE := HE.add e5
        refine o_assign HE rfl rfl ?_; clear HE; intro a HE
        exact ⟨_, _, HS, rfl, HE.get _ _ rfl, HE.defers, rfl⟩
      · intro a w G1 hl HS HE hp
        obtain ⟨_, e8, rfl⟩ := hp 8 26 _ rfl rfl rfl; replace HE := HE.add e8
        refine o_assign HE rfl rfl ?_; clear HE; intro a HE
        exact ⟨_, _, HS, rfl, HE.get _ _ rfl, HE.defers, rfl⟩
      clear HE HS; intro a w HS HE hp
      obtain ⟨_, e9, rfl⟩ := hp 9 7 _ rfl rfl; replace HE := HE.add e9
      obtain ⟨_, e10, rfl⟩ := hp 10 8 _ rfl rfl; replace HE := HE.add e10
      obtain ⟨_, e11, rfl⟩ := hp 11 9 _ rfl rfl; replace HE := HE.add e11
      clear hp
      refine hK19 _ _ ?_; clear hK19
      refine wp_seq_k (fun K hK => ?_); refine wp_region_lit ?_
      refine o_assign HE rfl rfl ?_; clear HE; intro a HE
      refine hK _ _ ?_; clear hK K
      obtain ⟨M0, hM0, HS⟩ : ∃ M0, M0 = _ ∧ St w0 G [] G15 _ M0 := ⟨_, rfl, HS⟩
      refine cutC (fun a' w' => St w0 G [] G15 w' M0 ∧ Env a' 64 [] [(0, .agg #[.int .i64 x.k, .int .i64 x.n, str x.s]), (1, .agg #[.int .i64 y.k, .int .i64 y.n, str y.s]), (2, .agg #[.int .i64 z.k, .int .i64 z.n, str z.s]), (3, .pointer (some ⟨B3, 0, none⟩)), (4, .pointer (some ⟨B4, 0, none⟩)), (5, .pointer (some ⟨B5, 0, none⟩)), (6, .bool false), (7, .int .i64 (compareV x y)), (8, .int .i64 (compareV y z)), (9, .int .i64 (compareV x z)), (10, .int .i64 (bif lessV x y then (-1) else 0)), (11, .bool true), (12, .bool (!true)), (13, .agg #[.int .i64 x.k, .int .i64 x.n, str x.s]), (14, .agg #[.int .i64 y.k, .int .i64 y.n, str y.s]), (15, .agg #[.int .i64 z.k, .int .i64 z.n, str z.s]), (16, .slice (some ⟨B16, 0, none⟩) 3 3), (17, .bool gb13)]) ?_ ?_
      · subst hM0
        refine wp_seq_k (fun K hK => ?_); refine wp_region_lit ?_
        refine o_ldA HE rfl HS rfl T.a25 (.there (.there (.here .here))) rfl ?_; clear HE; intro a HE
        refine o_ldA HE rfl HS rfl T.a25 (.there (.here .here)) rfl ?_; clear HE; intro a HE
        refine o_callP HE rfl HS rfl rfl T.g15 (c_less x y _ _ HS.sub) ?_
        clear HE HS; rintro _ w a HS rfl HE
        refine hK _ _ ?_; clear hK K
        refine cond HE rfl (fun h23 => ?_) (fun h23 => ?_)
        · have h23r := h23; try simp only [Bool.not_eq_true', Bool.not_eq_false', Bool.and_eq_true, Bool.or_eq_true, Bool.or_eq_false_iff, Bool.and_eq_false_iff, decide_eq_true_eq, decide_eq_false_iff_not, beq_iff_eq, beq_eq_false_iff_ne, ne_eq] at h23
          refine wp_region_lit ?_
          refine o_assign HE rfl rfl ?_; clear HE; intro a HE
          exact ⟨HS, HE.cut ⟨rfl, rfl, rfl, rfl, rfl, rfl, rfl, rfl, rfl, rfl, by first | rfl | (rw [h23r]; rfl) | (rw [h23r]; rfl) | (simp [h23r, lk]; done), rfl, rfl, rfl, rfl, rfl, rfl, rfl, trivial⟩⟩
        · have h23r := h23; try simp only [Bool.not_eq_true', Bool.not_eq_false', Bool.and_eq_true, Bool.or_eq_true, Bool.or_eq_false_iff, Bool.and_eq_false_iff, decide_eq_true_eq, decide_eq_false_iff_not, beq_iff_eq, beq_eq_false_iff_ne, ne_eq] at h23
          refine wp_skip ?_
          exact ⟨HS, HE.cut ⟨rfl, rfl, rfl, rfl, rfl, rfl, rfl, rfl, rfl, rfl, by first | rfl | (rw [h23r]; rfl) | (rw [h23r]; rfl) | (simp [h23r, lk]; done), rfl, rfl, rfl, rfl, rfl, rfl, rfl, trivial⟩⟩
      clear HE HS; rintro a w ⟨HS, HE⟩; subst hM0
      obtain ⟨M0, hM0, HS⟩ : ∃ M0, M0 = _ ∧ St w0 G [] G15 _ M0 := ⟨_, rfl, HS⟩
      refine cutC (fun a' w' => St w0 G [] G15 w' M0 ∧ Env a' 64 [] [(0, .agg #[.int .i64 x.k, .int .i64 x.n, str x.s]), (1, .agg #[.int .i64 y.k, .int .i64 y.n, str y.s]), (2, .agg #[.int .i64 z.k, .int .i64 z.n, str z.s]), (3, .pointer (some ⟨B3, 0, none⟩)), (4, .pointer (some ⟨B4, 0, none⟩)), (5, .pointer (some ⟨B5, 0, none⟩)), (6, .bool false), (7, .int .i64 (compareV x y)), (8, .int .i64 (compareV y z)), (9, .int .i64 (compareV x z)), (10, .int .i64 (bif lessV y x then 1 else bif lessV x y then (-1) else 0)), (11, .bool true), (12, .bool (!true)), (13, .agg #[.int .i64 x.k, .int .i64 x.n, str x.s]), (14, .agg #[.int .i64 y.k, .int .i64 y.n, str y.s]), (15, .agg #[.int .i64 z.k, .int .i64 z.n, str z.s]), (16, .slice (some ⟨B16, 0, none⟩) 3 3), (17, .bool gb13)]) ?_ ?_
      · subst hM0
        refine wp_seq_k (fun K hK => ?_); refine wp_region_lit ?_
        refine o_ldA HE rfl HS rfl T.a25 (.there (.here .here)) rfl ?_; clear HE; intro a HE
        refine o_ldA HE rfl HS rfl T.a25 (.there (.there (.here .here))) rfl ?_; clear HE; intro a HE
        refine o_callP HE rfl HS rfl rfl T.g15 (c_less y x _ _ HS.sub) ?_
        clear HE HS; rintro _ w a HS rfl HE
        refine hK _ _ ?_; clear hK K
        refine cond HE rfl (fun h25 => ?_) (fun h25 => ?_)
        · have h25r := h25; try simp only [Bool.not_eq_true', Bool.not_eq_false', Bool.and_eq_true, Bool.or_eq_true, Bool.or_eq_false_iff, Bool.and_eq_false_iff, decide_eq_true_eq, decide_eq_false_iff_not, beq_iff_eq, beq_eq_false_iff_ne, ne_eq] at h25
          refine wp_region_lit ?_
          refine o_assign HE rfl rfl ?_; clear HE; intro a HE
          exact ⟨HS, HE.cut ⟨rfl, rfl, rfl, rfl, rfl, rfl, rfl, rfl, rfl, rfl, by first | rfl | (rw [h25r]; rfl) | (rw [h25r]; rfl) | (simp [h25r, lk]; done), rfl, rfl, rfl, rfl, rfl, rfl, rfl, trivial⟩⟩
        · have h25r := h25; try simp only [Bool.not_eq_true', Bool.not_eq_false', Bool.and_eq_true, Bool.or_eq_true, Bool.or_eq_false_iff, Bool.and_eq_false_iff, decide_eq_true_eq, decide_eq_false_iff_not, beq_iff_eq, beq_eq_false_iff_ne, ne_eq] at h25
          refine wp_skip ?_
          exact ⟨HS, HE.cut ⟨rfl, rfl, rfl, rfl, rfl, rfl, rfl, rfl, rfl, rfl, by first | rfl | (rw [h25r]; rfl) | (rw [h25r]; rfl) | (simp [h25r, lk]; done), rfl, rfl, rfl, rfl, rfl, rfl, rfl, trivial⟩⟩
      clear HE HS; rintro a w ⟨HS, HE⟩; subst hM0
      refine wp_seq_k (fun K hK => ?_); refine wp_region_lit ?_
      refine o_move HE rfl rfl ?_; clear HE; intro a HE
      refine o_move HE rfl rfl ?_; clear HE; intro a HE
      refine o_eqI HE rfl rfl rfl ?_; clear HE; intro a HE
      refine o_move HE rfl rfl ?_; clear HE; intro a HE
      obtain ⟨M0, hM0, HS⟩ : ∃ M0, M0 = _ ∧ St w0 G [] G15 _ M0 := ⟨_, rfl, HS⟩
      refine cutL 7 (fun a' w' => St w0 G [] G15 w' M0 ∧ Env a' 64 [] [(43, .bool ((decide ((compareV x y) = (bif lessV y x then 1 else bif lessV x y then (-1) else 0))) && (decide ((compareV x y) = (-(compareV y x)))))), (0, .agg #[.int .i64 x.k, .int .i64 x.n, str x.s]), (1, .agg #[.int .i64 y.k, .int .i64 y.n, str y.s]), (2, .agg #[.int .i64 z.k, .int .i64 z.n, str z.s]), (3, .pointer (some ⟨B3, 0, none⟩)), (4, .pointer (some ⟨B4, 0, none⟩)), (5, .pointer (some ⟨B5, 0, none⟩)), (6, .bool false), (7, .int .i64 (compareV x y)), (8, .int .i64 (compareV y z)), (9, .int .i64 (compareV x z)), (11, .bool true), (12, .bool (!true)), (13, .agg #[.int .i64 x.k, .int .i64 x.n, str x.s]), (14, .agg #[.int .i64 y.k, .int .i64 y.n, str y.s]), (15, .agg #[.int .i64 z.k, .int .i64 z.n, str z.s]), (16, .slice (some ⟨B16, 0, none⟩) 3 3), (17, .bool gb13)]) ?_ ?_
      · refine (Bool.eq_false_or_eq_true (decide ((compareV x y) = (bif lessV y x then 1 else bif lessV x y then (-1) else 0)))).elim (fun hb26 => ?_) (fun hb26 => ?_)
        · subst hM0
          have hk27 := hb26; try simp only [Bool.not_eq_true', Bool.not_eq_false', Bool.and_eq_true, Bool.or_eq_true, Bool.or_eq_false_iff, decide_eq_true_eq, decide_eq_false_iff_not, beq_iff_eq, beq_eq_false_iff_ne, ne_eq] at hk27
          refine op_on HE rfl rfl hb26 ?_
          refine o_move HE rfl rfl ?_; clear HE; intro a HE
          refine op_on HE rfl rfl hb26 ?_
          refine o_ldA HE rfl HS rfl T.a25 (.there (.here .here)) rfl ?_; clear HE; intro a HE
          refine op_on HE rfl rfl hb26 ?_
          refine o_ldA HE rfl HS rfl T.a25 (.there (.there (.here .here))) rfl ?_; clear HE; intro a HE
          refine op_on HE rfl rfl hb26 ?_
          refine o_callP HE rfl HS rfl rfl T.g14 (c_compare y x _ _ HS.sub) ?_
          clear HE HS; rintro _ w a HS rfl HE
          refine op_on HE rfl rfl hb26 ?_
          have hcr := cv_range y x
          refine o_negF HE rfl rfl (wrap_i64 (by omega)) ?_; clear HE; intro a HE
          refine op_on HE rfl rfl hb26 ?_
          refine o_eqI HE rfl rfl rfl ?_; clear HE; intro a HE
          refine o_pick_t HE rfl rfl hb26 rfl ?_; clear HE; intro a HE
          exact ⟨HS, HE.cut ⟨by rw [hb26]; rfl, rfl, rfl, rfl, rfl, rfl, rfl, rfl, rfl, rfl, rfl, rfl, rfl, rfl, rfl, rfl, rfl, rfl, trivial⟩⟩
        · subst hM0
          have hk28 := hb26; try simp only [Bool.not_eq_true', Bool.not_eq_false', Bool.and_eq_true, Bool.or_eq_true, Bool.or_eq_false_iff, decide_eq_true_eq, decide_eq_false_iff_not, beq_iff_eq, beq_eq_false_iff_ne, ne_eq] at hk28
          refine g_off HE rfl rfl rfl hb26 ?_; clear HE; intro a HE
          refine g_off HE rfl rfl rfl hb26 ?_; clear HE; intro a HE
          refine g_off HE rfl rfl rfl hb26 ?_; clear HE; intro a HE
          refine g_off HE rfl rfl rfl hb26 ?_; clear HE; intro a HE
          refine g_off HE rfl rfl rfl hb26 ?_; clear HE; intro a HE
          refine g_off HE rfl rfl rfl hb26 ?_; clear HE; intro a HE
          refine o_pick_f HE rfl rfl hb26 rfl ?_; clear HE; intro a HE
          exact ⟨HS, HE.cut ⟨by rw [hb26]; rfl, rfl, rfl, rfl, rfl, rfl, rfl, rfl, rfl, rfl, rfl, rfl, rfl, rfl, rfl, rfl, rfl, rfl, trivial⟩⟩
      clear HE HS; rintro a w ⟨HS, HE⟩; subst hM0
      refine o_move HE rfl rfl ?_; clear HE; intro a HE
      refine cutL 7 (fun a' w' => w = w' ∧ Env a' 64 [] [(51, .bool (((decide ((compareV x y) = (bif lessV y x then 1 else bif lessV x y then (-1) else 0))) && (decide ((compareV x y) = (-(compareV y x))))) && ((decide ((compareV x y) = 0)) == (decide (x.k = y.k) && (decide (x.n = y.n) && (x.s == y.s && true)))))), (0, .agg #[.int .i64 x.k, .int .i64 x.n, str x.s]), (1, .agg #[.int .i64 y.k, .int .i64 y.n, str y.s]), (2, .agg #[.int .i64 z.k, .int .i64 z.n, str z.s]), (3, .pointer (some ⟨B3, 0, none⟩)), (4, .pointer (some ⟨B4, 0, none⟩)), (5, .pointer (some ⟨B5, 0, none⟩)), (6, .bool false), (7, .int .i64 (compareV x y)), (8, .int .i64 (compareV y z)), (9, .int .i64 (compareV x z)), (11, .bool true), (12, .bool (!true)), (13, .agg #[.int .i64 x.k, .int .i64 x.n, str x.s]), (14, .agg #[.int .i64 y.k, .int .i64 y.n, str y.s]), (15, .agg #[.int .i64 z.k, .int .i64 z.n, str z.s]), (16, .slice (some ⟨B16, 0, none⟩) 3 3), (17, .bool gb13)]) ?_ ?_
      · refine (Bool.eq_false_or_eq_true ((decide ((compareV x y) = (bif lessV y x then 1 else bif lessV x y then (-1) else 0))) && (decide ((compareV x y) = (-(compareV y x)))))).elim (fun hb29 => ?_) (fun hb29 => ?_)
        · skip
          have hk30 := hb29; try simp only [Bool.not_eq_true', Bool.not_eq_false', Bool.and_eq_true, Bool.or_eq_true, Bool.or_eq_false_iff, decide_eq_true_eq, decide_eq_false_iff_not, beq_iff_eq, beq_eq_false_iff_ne, ne_eq] at hk30
          refine op_on HE rfl rfl hb29 ?_
          refine o_move HE rfl rfl ?_; clear HE; intro a HE
          refine op_on HE rfl rfl hb29 ?_
          refine o_eqI HE rfl rfl rfl ?_; clear HE; intro a HE
          refine op_on HE rfl rfl hb29 ?_
          refine o_ldA HE rfl HS rfl T.a25 (.there (.there (.here .here))) rfl ?_; clear HE; intro a HE
          refine op_on HE rfl rfl hb29 ?_
          refine o_ldA HE rfl HS rfl T.a25 (.there (.here .here)) rfl ?_; clear HE; intro a HE
          refine op_on HE rfl rfl hb29 ?_
          refine o_eqA (b := decide (x.k = y.k) && (decide (x.n = y.n) && (x.s == y.s && true))) HE rfl rfl rfl T.q25 rfl rfl ?_; clear HE; intro a HE
          refine op_on HE rfl rfl hb29 ?_
          refine o_eqB HE rfl rfl rfl Tryd.underlying4 ?_; clear HE; intro a HE
          refine o_pick_t HE rfl rfl hb29 rfl ?_; clear HE; intro a HE
          exact ⟨rfl, HE.cut ⟨by rw [hb29]; rfl, rfl, rfl, rfl, rfl, rfl, rfl, rfl, rfl, rfl, rfl, rfl, rfl, rfl, rfl, rfl, rfl, rfl, trivial⟩⟩
        · skip
          have hk31 := hb29; try simp only [Bool.not_eq_true', Bool.not_eq_false', Bool.and_eq_true, Bool.or_eq_true, Bool.or_eq_false_iff, decide_eq_true_eq, decide_eq_false_iff_not, beq_iff_eq, beq_eq_false_iff_ne, ne_eq] at hk31
          refine g_off HE rfl rfl rfl hb29 ?_; clear HE; intro a HE
          refine g_off HE rfl rfl rfl hb29 ?_; clear HE; intro a HE
          refine g_off HE rfl rfl rfl hb29 ?_; clear HE; intro a HE
          refine g_off HE rfl rfl rfl hb29 ?_; clear HE; intro a HE
          refine g_off HE rfl rfl rfl hb29 ?_; clear HE; intro a HE
          refine g_off HE rfl rfl rfl hb29 ?_; clear HE; intro a HE
          refine o_pick_f HE rfl rfl hb29 rfl ?_; clear HE; intro a HE
          exact ⟨rfl, HE.cut ⟨by rw [hb29]; rfl, rfl, rfl, rfl, rfl, rfl, rfl, rfl, rfl, rfl, rfl, rfl, rfl, rfl, rfl, rfl, rfl, rfl, trivial⟩⟩
      clear HE; rintro a _ ⟨rfl, HE⟩
      refine o_move HE rfl rfl ?_; clear HE; intro a HE
      refine cutL 11 (fun a' w' => w = w' ∧ Env a' 64 [] [(63, .bool ((((decide ((compareV x y) = (bif lessV y x then 1 else bif lessV x y then (-1) else 0))) && (decide ((compareV x y) = (-(compareV y x))))) && ((decide ((compareV x y) = 0)) == (decide (x.k = y.k) && (decide (x.n = y.n) && (x.s == y.s && true))))) && (((decide (0 < (compareV x y))) || (decide (0 < (compareV y z)))) || (decide ((compareV x z) ≤ 0))))), (0, .agg #[.int .i64 x.k, .int .i64 x.n, str x.s]), (1, .agg #[.int .i64 y.k, .int .i64 y.n, str y.s]), (2, .agg #[.int .i64 z.k, .int .i64 z.n, str z.s]), (3, .pointer (some ⟨B3, 0, none⟩)), (4, .pointer (some ⟨B4, 0, none⟩)), (5, .pointer (some ⟨B5, 0, none⟩)), (6, .bool false), (11, .bool true), (12, .bool (!true)), (13, .agg #[.int .i64 x.k, .int .i64 x.n, str x.s]), (14, .agg #[.int .i64 y.k, .int .i64 y.n, str y.s]), (15, .agg #[.int .i64 z.k, .int .i64 z.n, str z.s]), (16, .slice (some ⟨B16, 0, none⟩) 3 3), (17, .bool gb13)]) ?_ ?_
      · refine (Bool.eq_false_or_eq_true (((decide ((compareV x y) = (bif lessV y x then 1 else bif lessV x y then (-1) else 0))) && (decide ((compareV x y) = (-(compareV y x))))) && ((decide ((compareV x y) = 0)) == (decide (x.k = y.k) && (decide (x.n = y.n) && (x.s == y.s && true)))))).elim (fun hb32 => ?_) (fun hb32 => ?_)
        · skip
          have hk33 := hb32; try simp only [Bool.not_eq_true', Bool.not_eq_false', Bool.and_eq_true, Bool.or_eq_true, Bool.or_eq_false_iff, decide_eq_true_eq, decide_eq_false_iff_not, beq_iff_eq, beq_eq_false_iff_ne, ne_eq] at hk33
          refine op_on HE rfl rfl hb32 ?_
          refine o_move HE rfl rfl ?_; clear HE; intro a HE
          refine op_on HE rfl rfl hb32 ?_
          refine o_gtr HE rfl rfl rfl ?_; clear HE; intro a HE
          refine op_on HE rfl rfl hb32 ?_
          refine o_move HE rfl rfl ?_; clear HE; intro a HE
          refine cutL 3 (fun a' w' => w = w' ∧ Env a' 64 [] [(58, .bool ((decide (0 < (compareV x y))) || (decide (0 < (compareV y z))))), (0, .agg #[.int .i64 x.k, .int .i64 x.n, str x.s]), (1, .agg #[.int .i64 y.k, .int .i64 y.n, str y.s]), (2, .agg #[.int .i64 z.k, .int .i64 z.n, str z.s]), (3, .pointer (some ⟨B3, 0, none⟩)), (4, .pointer (some ⟨B4, 0, none⟩)), (5, .pointer (some ⟨B5, 0, none⟩)), (6, .bool false), (9, .int .i64 (compareV x z)), (11, .bool true), (12, .bool (!true)), (13, .agg #[.int .i64 x.k, .int .i64 x.n, str x.s]), (14, .agg #[.int .i64 y.k, .int .i64 y.n, str y.s]), (15, .agg #[.int .i64 z.k, .int .i64 z.n, str z.s]), (16, .slice (some ⟨B16, 0, none⟩) 3 3), (17, .bool gb13), (52, .bool (((decide ((compareV x y) = (bif lessV y x then 1 else bif lessV x y then (-1) else 0))) && (decide ((compareV x y) = (-(compareV y x))))) && ((decide ((compareV x y) = 0)) == (decide (x.k = y.k) && (decide (x.n = y.n) && (x.s == y.s && true))))))]) ?_ ?_
          · refine (Bool.eq_false_or_eq_true (decide (0 < (compareV x y)))).elim (fun hb34 => ?_) (fun hb34 => ?_)
            · skip
              have hk35 := hb34; try simp only [Bool.not_eq_true', Bool.not_eq_false', Bool.and_eq_true, Bool.or_eq_true, Bool.or_eq_false_iff, decide_eq_true_eq, decide_eq_false_iff_not, beq_iff_eq, beq_eq_false_iff_ne, ne_eq] at hk35
              refine g_off HE rfl rfl rfl hb34 ?_; clear HE; intro a HE
              refine g_off HE rfl rfl rfl hb34 ?_; clear HE; intro a HE
              refine op_on HE rfl rfl hb32 ?_
              refine o_pick_t HE rfl rfl hb34 rfl ?_; clear HE; intro a HE
              exact ⟨rfl, HE.cut ⟨by rw [hb34]; rfl, rfl, rfl, rfl, rfl, rfl, rfl, rfl, rfl, rfl, rfl, rfl, rfl, rfl, rfl, rfl, rfl, trivial⟩⟩
            · skip
              have hk36 := hb34; try simp only [Bool.not_eq_true', Bool.not_eq_false', Bool.and_eq_true, Bool.or_eq_true, Bool.or_eq_false_iff, decide_eq_true_eq, decide_eq_false_iff_not, beq_iff_eq, beq_eq_false_iff_ne, ne_eq] at hk36
              refine op_on HE rfl rfl hb34 ?_
              refine o_move HE rfl rfl ?_; clear HE; intro a HE
              refine op_on HE rfl rfl hb34 ?_
              refine o_gtr HE rfl rfl rfl ?_; clear HE; intro a HE
              refine op_on HE rfl rfl hb32 ?_
              refine o_pick_f HE rfl rfl hb34 rfl ?_; clear HE; intro a HE
              exact ⟨rfl, HE.cut ⟨by rw [hb34]; rfl, rfl, rfl, rfl, rfl, rfl, rfl, rfl, rfl, rfl, rfl, rfl, rfl, rfl, rfl, rfl, rfl, trivial⟩⟩
          clear HE; rintro a _ ⟨rfl, HE⟩
          refine op_on HE rfl rfl hb32 ?_
          refine o_move HE rfl rfl ?_; clear HE; intro a HE
          refine cutL 3 (fun a' w' => w = w' ∧ Env a' 64 [] [(62, .bool (((decide (0 < (compareV x y))) || (decide (0 < (compareV y z)))) || (decide ((compareV x z) ≤ 0)))), (0, .agg #[.int .i64 x.k, .int .i64 x.n, str x.s]), (1, .agg #[.int .i64 y.k, .int .i64 y.n, str y.s]), (2, .agg #[.int .i64 z.k, .int .i64 z.n, str z.s]), (3, .pointer (some ⟨B3, 0, none⟩)), (4, .pointer (some ⟨B4, 0, none⟩)), (5, .pointer (some ⟨B5, 0, none⟩)), (6, .bool false), (11, .bool true), (12, .bool (!true)), (13, .agg #[.int .i64 x.k, .int .i64 x.n, str x.s]), (14, .agg #[.int .i64 y.k, .int .i64 y.n, str y.s]), (15, .agg #[.int .i64 z.k, .int .i64 z.n, str z.s]), (16, .slice (some ⟨B16, 0, none⟩) 3 3), (17, .bool gb13), (52, .bool (((decide ((compareV x y) = (bif lessV y x then 1 else bif lessV x y then (-1) else 0))) && (decide ((compareV x y) = (-(compareV y x))))) && ((decide ((compareV x y) = 0)) == (decide (x.k = y.k) && (decide (x.n = y.n) && (x.s == y.s && true))))))]) ?_ ?_
          · refine (Bool.eq_false_or_eq_true ((decide (0 < (compareV x y))) || (decide (0 < (compareV y z))))).elim (fun hb37 => ?_) (fun hb37 => ?_)
            · skip
              have hk38 := hb37; try simp only [Bool.not_eq_true', Bool.not_eq_false', Bool.and_eq_true, Bool.or_eq_true, Bool.or_eq_false_iff, decide_eq_true_eq, decide_eq_false_iff_not, beq_iff_eq, beq_eq_false_iff_ne, ne_eq] at hk38
              refine g_off HE rfl rfl rfl hb37 ?_; clear HE; intro a HE
              refine g_off HE rfl rfl rfl hb37 ?_; clear HE; intro a HE
              refine op_on HE rfl rfl hb32 ?_
              refine o_pick_t HE rfl rfl hb37 rfl ?_; clear HE; intro a HE
              exact ⟨rfl, HE.cut ⟨by rw [hb37]; rfl, rfl, rfl, rfl, rfl, rfl, rfl, rfl, rfl, rfl, rfl, rfl, rfl, rfl, rfl, rfl, trivial⟩⟩
            · skip
              have hk39 := hb37; try simp only [Bool.not_eq_true', Bool.not_eq_false', Bool.and_eq_true, Bool.or_eq_true, Bool.or_eq_false_iff, decide_eq_true_eq, decide_eq_false_iff_not, beq_iff_eq, beq_eq_false_iff_ne, ne_eq] at hk39
              refine op_on HE rfl rfl hb37 ?_
              refine o_move HE rfl rfl ?_; clear HE; intro a HE
              refine op_on HE rfl rfl hb37 ?_
              refine o_leq HE rfl rfl rfl ?_; clear HE; intro a HE
              refine op_on HE rfl rfl hb32 ?_
              refine o_pick_f HE rfl rfl hb37 rfl ?_; clear HE; intro a HE
              exact ⟨rfl, HE.cut ⟨by rw [hb37]; rfl, rfl, rfl, rfl, rfl, rfl, rfl, rfl, rfl, rfl, rfl, rfl, rfl, rfl, rfl, rfl, trivial⟩⟩
          clear HE; rintro a _ ⟨rfl, HE⟩
          refine o_pick_t HE rfl rfl hb32 rfl ?_; clear HE; intro a HE
          exact ⟨rfl, HE.cut ⟨by rw [hb32]; rfl, rfl, rfl, rfl, rfl, rfl, rfl, rfl, rfl, rfl, rfl, rfl, rfl, rfl, rfl, trivial⟩⟩
        · skip
          have hk40 := hb32; try simp only [Bool.not_eq_true', Bool.not_eq_false', Bool.and_eq_true, Bool.or_eq_true, Bool.or_eq_false_iff, decide_eq_true_eq, decide_eq_false_iff_not, beq_iff_eq, beq_eq_false_iff_ne, ne_eq] at hk40
          refine g_off HE rfl rfl rfl hb32 ?_; clear HE; intro a HE
          refine g_off HE rfl rfl rfl hb32 ?_; clear HE; intro a HE
          refine g_off HE rfl rfl rfl hb32 ?_; clear HE; intro a HE
          refine g_offu HE rfl rfl rfl ?_; clear HE; intro a HE
          refine g_offu HE rfl rfl rfl ?_; clear HE; intro a HE
          refine g_off HE rfl rfl rfl hb32 ?_; clear HE; intro a HE
          refine g_off HE rfl rfl rfl hb32 ?_; clear HE; intro a HE
          refine g_offu HE rfl rfl rfl ?_; clear HE; intro a HE
          refine g_offu HE rfl rfl rfl ?_; clear HE; intro a HE
          refine g_off HE rfl rfl rfl hb32 ?_; clear HE; intro a HE
          refine o_pick_f HE rfl rfl hb32 rfl ?_; clear HE; intro a HE
          exact ⟨rfl, HE.cut ⟨by rw [hb32]; rfl, rfl, rfl, rfl, rfl, rfl, rfl, rfl, rfl, rfl, rfl, rfl, rfl, rfl, rfl, trivial⟩⟩
      clear HE; rintro a _ ⟨rfl, HE⟩
      refine o_assign HE rfl rfl ?_; clear HE; intro a HE
      refine hK _ _ ?_; clear hK K
      refine wp_ret ?_
      show Q .ret _ _
      refine ret hQ HE rfl (HE.res rfl .nil) ⟨_, _, HS.stop (List.nil_sublist _), rfl, ?_⟩
      show _ = _
      simp only [packed, Value.bool.injEq]
      rw [cv_want x y, ← cv_zero x y, ← cv_neg x y, decide_eq_true rfl, cv_trans x y z]
      simp

/-! `incognito/incognitoref06.Print` -/
set_option maxRecDepth 100000 in
set_option maxHeartbeats 4000000 in
theorem c_Print6 (n : Int) (w0 : World) (G : Heap) (hG : Sub G w0) (hn : I64 n):
    Calls Tryd.prog 37 #[.int .i64 n] w0 (Ret w0 G (fun v _ => v = str (Lib.itoa n))) := by
  refine enter Tryd.func37 rfl Tryd.ntmps37 rfl ?_
  intro Q hQ a HE
  have HS := St.start0 hG
  refine wp_seq_k (fun K hK => ?_); refine wp_region_lit ?_
  refine o_assign HE rfl rfl ?_; clear HE; intro a HE
  refine hK _ _ ?_; clear hK K
  refine wp_seq_k (fun K hK => ?_); refine wp_region_lit ?_
  refine o_assign HE rfl rfl ?_; clear HE; intro a HE
  refine hK _ _ ?_; clear hK K
  refine wp_seq_k (fun K4 hK3 => ?_)
  refine wp_seq_k (fun K hK => ?_); refine wp_region_lit ?_
  refine o_move HE rfl rfl ?_; clear HE; intro a HE
  refine o_assign HE rfl rfl ?_; clear HE; intro a HE
  refine hK _ _ ?_; clear hK K
  refine wp_block ?_
  refine loop (fun (p : Int × Bs) a' w' => St w0 G [] G w' [] ∧ Env a' 30 [] [(0, .int .i64 n), (3, str p.2), (4, .int .i64 p.1)] ∧ (dd n.natAbs = dd p.1.natAbs ++ p.2 ∧ I64 p.1)) (fun (p : Int × Bs) => p.1.natAbs) (n, []) ⟨HS, HE.cut ⟨rfl, rfl, rfl, trivial⟩, ⟨by simp, hn⟩⟩ ?_
  clear HE HS; intro p a w ⟨HS, HE, ⟨hd, hr⟩⟩
  refine wp_seq_k (fun K8 hK7 => ?_)
  refine wp_block ?_
  refine wp_seq_k (fun K hK => ?_); refine wp_region_lit ?_
  refine o_move HE rfl rfl ?_; clear HE; intro a HE
  have hta := tdiv_abs p.1
  have htm := tmod_abs p.1
  refine o_remW HE rfl rfl rfl (by omega) ?_; clear HE; intro a HE
  refine o_assign HE rfl rfl ?_; clear HE; intro a HE
  refine hK _ _ ?_; clear hK K
  refine cutC (fun a' w' => w = w' ∧ Env a' 30 [] [(0, .int .i64 n), (3, str p.2), (4, .int .i64 p.1), (5, .int .i64 ((Int.tmod p.1 10).natAbs : Int)), (9, .int .i64 p.1), (10, .int .i64 (Int.tmod p.1 10))]) ?_ ?_
  · skip
    refine wp_seq_k (fun K hK => ?_); refine wp_region_lit ?_
    refine o_move HE rfl rfl ?_; clear HE; intro a HE
    refine o_lss HE rfl rfl rfl ?_; clear HE; intro a HE
    refine hK _ _ ?_; clear hK K
    refine cond HE rfl (fun h11 => ?_) (fun h11 => ?_)
    · have h11r := h11; try simp only [Bool.not_eq_true', Bool.not_eq_false', Bool.and_eq_true, Bool.or_eq_true, Bool.or_eq_false_iff, Bool.and_eq_false_iff, decide_eq_true_eq, decide_eq_false_iff_not, beq_iff_eq, beq_eq_false_iff_ne, ne_eq] at h11
      refine wp_region_lit ?_
      refine o_move HE rfl rfl ?_; clear HE; intro a HE
      refine o_negF HE rfl rfl (wrap_i64 (by omega)) ?_; clear HE; intro a HE
      refine o_assign HE rfl rfl ?_; clear HE; intro a HE
      exact ⟨rfl, HE.cut ⟨rfl, rfl, rfl, by show some (.int .i64 (-(Int.tmod p.1 10)) : Value) = some (.int .i64 ((Int.tmod p.1 10).natAbs : Int) : Value); congr 2; omega, rfl, rfl, trivial⟩⟩
    · have h11r := h11; try simp only [Bool.not_eq_true', Bool.not_eq_false', Bool.and_eq_true, Bool.or_eq_true, Bool.or_eq_false_iff, Bool.and_eq_false_iff, decide_eq_true_eq, decide_eq_false_iff_not, beq_iff_eq, beq_eq_false_iff_ne, ne_eq] at h11
      refine wp_skip ?_
      exact ⟨rfl, HE.cut ⟨rfl, rfl, rfl, by show some (.int .i64 (Int.tmod p.1 10) : Value) = some (.int .i64 ((Int.tmod p.1 10).natAbs : Int) : Value); congr 2; omega, rfl, rfl, trivial⟩⟩
  clear HE; rintro a _ ⟨rfl, HE⟩
  refine wp_seq_k (fun K hK => ?_); refine wp_region_lit ?_
  refine o_move HE rfl rfl ?_; clear HE; intro a HE
  refine o_add HE rfl rfl rfl (by omega) ?_; clear HE; intro a HE
  refine o_conv HE rfl rfl T.c2_5 (wrap_u8 (by omega)) ?_; clear HE; intro a HE
  refine o_buildSl (cs := #[.int .u8 (48 + ((Int.tmod p.1 10).natAbs : Int))]) [(0, _)] HE rfl HS rfl T.l75 (by kernel_rfl) ⟨rfl, trivial⟩ ?_; clear HE HS; intro B18 w a HS HE
  refine o_b2s (ns := [48 + ((Int.tmod p.1 10).natAbs : Int)]) HE rfl HS rfl T.b75_9 (.here .here) rfl ?_; clear HE; intro a HE
  refine o_move HE rfl rfl ?_; clear HE; intro a HE
  refine o_cat HE rfl rfl rfl (by (have e1 := congrArg List.length hd; have e2 := dd_len hn; simp at e1 ⊢; omega)) ?_; clear HE; intro a HE
  refine o_assign HE rfl rfl ?_; clear HE; intro a HE
  refine hK _ _ ?_; clear hK K
  refine wp_seq_k (fun K hK => ?_); refine wp_region_lit ?_
  refine o_move HE rfl rfl ?_; clear HE; intro a HE
  refine o_quoT HE rfl rfl rfl (by decide) (wrap_i64 (by exact tdiv_range hr)) ?_; clear HE; intro a HE
  refine o_eqI HE rfl rfl rfl ?_; clear HE; intro a HE
  refine hK _ _ ?_; clear hK K
  refine cond HE rfl (fun h14 => ?_) (fun h14 => ?_)
  · have h14r := h14; try simp only [Bool.not_eq_true', Bool.not_eq_false', Bool.and_eq_true, Bool.or_eq_true, Bool.or_eq_false_iff, Bool.and_eq_false_iff, decide_eq_true_eq, decide_eq_false_iff_not, beq_iff_eq, beq_eq_false_iff_ne, ne_eq] at h14
    refine wp_exit ?_
    refine hK3 _ _ ?_; clear hK3
    refine wp_seq_k (fun K16 hK15 => ?_)
    refine wp_seq_k (fun K hK => ?_); refine wp_region_lit ?_
    refine o_move HE rfl rfl ?_; clear HE; intro a HE
    refine o_lss HE rfl rfl rfl ?_; clear HE; intro a HE
    refine hK _ _ ?_; clear hK K
    refine cond HE rfl (fun h18 => ?_) (fun h18 => ?_)
    · have h18r := h18; try simp only [Bool.not_eq_true', Bool.not_eq_false', Bool.and_eq_true, Bool.or_eq_true, Bool.or_eq_false_iff, Bool.and_eq_false_iff, decide_eq_true_eq, decide_eq_false_iff_not, beq_iff_eq, beq_eq_false_iff_ne, ne_eq] at h18
      refine wp_seq_k (fun K hK => ?_); refine wp_region_lit ?_
      refine o_move HE rfl rfl ?_; clear HE; intro a HE
      refine o_cat HE rfl rfl rfl (by (have e1 := congrArg List.length hd; have e2 := dd_len hn; simp at e1 ⊢; omega)) ?_; clear HE; intro a HE
      refine o_assign HE rfl rfl ?_; clear HE; intro a HE
      refine hK _ _ ?_; clear hK K
      refine wp_ret ?_
      show Q .ret _ _
      refine ret hQ HE rfl (HE.res rfl .nil) ⟨_, _, HS.stop (List.nil_sublist _), rfl, ?_⟩
      have e := (hd.trans (dd_last h14)).symm
      show _ = _
      unfold Lib.itoa
      rw [if_pos h18]
      exact congrArg str (congrArg (45 :: ·) e)
    · have h18r := h18; try simp only [Bool.not_eq_true', Bool.not_eq_false', Bool.and_eq_true, Bool.or_eq_true, Bool.or_eq_false_iff, Bool.and_eq_false_iff, decide_eq_true_eq, decide_eq_false_iff_not, beq_iff_eq, beq_eq_false_iff_ne, ne_eq] at h18
      refine wp_skip ?_
      refine hK15 _ _ ?_; clear hK15
      refine wp_seq_k (fun K hK => ?_); refine wp_region_lit ?_
      refine o_move HE rfl rfl ?_; clear HE; intro a HE
      refine o_assign HE rfl rfl ?_; clear HE; intro a HE
      refine hK _ _ ?_; clear hK K
      refine wp_ret ?_
      show Q .ret _ _
      refine ret hQ HE rfl (HE.res rfl .nil) ⟨_, _, HS.stop (List.nil_sublist _), rfl, ?_⟩
      have e := (hd.trans (dd_last h14)).symm
      show _ = _
      unfold Lib.itoa
      rw [if_neg (by omega), show n.toNat = n.natAbs by omega]
      exact congrArg str e
  · have h14r := h14; try simp only [Bool.not_eq_true', Bool.not_eq_false', Bool.and_eq_true, Bool.or_eq_true, Bool.or_eq_false_iff, Bool.and_eq_false_iff, decide_eq_true_eq, decide_eq_false_iff_not, beq_iff_eq, beq_eq_false_iff_ne, ne_eq] at h14
    refine wp_skip ?_
    refine hK7 _ _ ?_; clear hK7
    refine wp_region_lit ?_
    refine o_move HE rfl rfl ?_; clear HE; intro a HE
    refine o_quoT HE rfl rfl rfl (by decide) (wrap_i64 (by exact tdiv_range hr)) ?_; clear HE; intro a HE
    refine o_assign HE rfl rfl ?_; clear HE; intro a HE
    replace HS := HS.drop (M' := []) (sub_drop sub_nil)
    have hq := h14
    have hd2 := dd_step (m := p.1) (s := p.2) hq
    have hta := tdiv_abs p.1
    exact ⟨(Int.tdiv p.1 10, (([48 + ((Int.tmod p.1 10).natAbs : Int)]).map fun (n : Int) => UInt8.ofNat n.toNat) ++ p.2), ⟨HS, HE.cut ⟨rfl, rfl, rfl, trivial⟩, ⟨hd.trans hd2, tdiv_range hr⟩⟩, (by dsimp only; omega)⟩

theorem gPow : Tryd.prog.globalNamed "internal/strconv.uint64pow10" = some 3 := by kernel_rfl

/-! `incognito/num.Print` -/
set_option maxRecDepth 100000 in
set_option maxHeartbeats 4000000 in
theorem c_print6 (n : Int) (w0 : World) (G : Heap) (hG : Sub G w0) (hn : I64 n) (hT : TabG G 3 .u64 Lib.pow10Tab):
    Calls Tryd.prog 36 #[.int .i64 n] w0 (Ret w0 G (fun v _ => v = str (Lib.itoa n))) := by
  refine enter Tryd.func36 rfl Tryd.ntmps36 rfl ?_
  intro Q hQ a HE
  have HS := St.start0 hG
  refine wp_seq_k (fun K hK => ?_); refine wp_region_lit ?_
  refine o_assign HE rfl rfl ?_; clear HE; intro a HE
  refine hK _ _ ?_; clear hK K
  refine wp_seq_k (fun K hK => ?_); refine wp_region_lit ?_
  refine o_move HE rfl rfl ?_; clear HE; intro a HE
  refine o_callP HE rfl HS rfl rfl T.g50 (calls_grow HS.sub (Tryd.strconv_FormatInt_10 n (by first | exact hn.1 | omega) (by first | exact hn.2 | omega) _ (TabG.is HS.sub gPow hT))) ?_
  clear HE HS; rintro _ w a HS rfl HE
  refine o_assign HE rfl rfl ?_; clear HE; intro a HE
  refine hK _ _ ?_; clear hK K
  refine wp_ret ?_
  show Q .ret _ _
  refine ret hQ HE rfl (HE.res rfl .nil) ⟨_, _, HS.stop (List.nil_sublist _), rfl, ?_⟩
  exact rfl

/-! `incognito/value.Right` -/
set_option maxRecDepth 100000 in
set_option maxHeartbeats 4000000 in
theorem c_right7 (x : Val) (w0 : World) (G : Heap) (hG : Sub G w0) (hg0 : CellsAt G 0 0 [.int .i64 3, .int .i64 1, str []]) (hg1 : CellsAt G 1 0 [.int .i64 3, .int .i64 0, str []]) (hv : x.Wf):
    Calls Tryd.prog 17 #[.agg #[.int .i64 x.k, .int .i64 x.n, str x.s]] w0 (Ret w0 G (fun v _ => v = .bool (rightV x))) := by
  refine enter Tryd.func17 rfl Tryd.ntmps17 rfl ?_
  intro Q hQ a HE
  have HS := St.start0 hG
  refine wp_seq_k (fun K hK => ?_); refine wp_region_lit ?_
  refine o_boxL [(0, _), (1, _), (2, _)] HE rfl HS rfl ⟨rfl, rfl, rfl, trivial⟩ ?_; clear HE HS; intro B1 w a HS HE
  refine o_assign HE rfl rfl ?_; clear HE; intro a HE
  refine hK _ _ ?_; clear hK K
  refine wp_seq_k (fun K3 hK2 => ?_)
  refine wp_seq_k (fun K hK => ?_); refine wp_region_lit ?_
  refine o_fld HE rfl rfl T.f25_0 ?_; clear HE; intro a HE
  refine o_ld HE rfl HS rfl T.s3 (.here .here) rfl ?_; clear HE; intro a HE
  refine hK _ _ ?_; clear hK K
  refine wp_block ?_
  refine wp_seq_k (fun K hK => ?_); refine wp_region_lit ?_
  refine o_eqI HE rfl rfl rfl ?_; clear HE; intro a HE
  refine o_assign HE rfl rfl ?_; clear HE; intro a HE
  refine hK _ _ ?_; clear hK K
  refine cond HE rfl (fun h6 => ?_) (fun h6 => ?_)
  · have h6r := h6; try simp only [Bool.not_eq_true', Bool.not_eq_false', Bool.and_eq_true, Bool.or_eq_true, Bool.or_eq_false_iff, Bool.and_eq_false_iff, decide_eq_true_eq, decide_eq_false_iff_not, beq_iff_eq, beq_eq_false_iff_ne, ne_eq] at h6
    refine wp_seq_k (fun K hK => ?_); refine wp_region_lit ?_
    refine o_ldA HE rfl HS rfl T.a25 (.here .here) rfl ?_; clear HE; intro a HE
    refine o_build (cs := #[.int .i64 0, .int .i64 0, str []]) HE rfl rfl (by kernel_rfl) ?_; clear HE; intro a HE
    refine o_eqA (b := decide (x.k = 0) && (decide (x.n = 0) && (x.s == [] && true))) HE rfl rfl rfl T.q25 rfl rfl ?_; clear HE; intro a HE
    refine o_assign HE rfl rfl ?_; clear HE; intro a HE
    refine hK _ _ ?_; clear hK K
    refine wp_ret ?_
    show Q .ret _ _
    refine ret hQ HE rfl (HE.res rfl .nil) ⟨_, _, HS.stop (List.nil_sublist _), rfl, ?_⟩
    show _ = _
    simp only [packed, Value.bool.injEq]
    symm
    unfold rightV
    rw [if_pos h6]
    first | rfl | (simp [h6]; done)
  · have h6r := h6; try simp only [Bool.not_eq_true', Bool.not_eq_false', Bool.and_eq_true, Bool.or_eq_true, Bool.or_eq_false_iff, Bool.and_eq_false_iff, decide_eq_true_eq, decide_eq_false_iff_not, beq_iff_eq, beq_eq_false_iff_ne, ne_eq] at h6
    refine wp_seq_k (fun K hK => ?_); refine wp_region_lit ?_
    refine o_eqI HE rfl rfl rfl ?_; clear HE; intro a HE
    refine o_assign HE rfl rfl ?_; clear HE; intro a HE
    refine hK _ _ ?_; clear hK K
    refine cond HE rfl (fun h9 => ?_) (fun h9 => ?_)
    · have h9r := h9; try simp only [Bool.not_eq_true', Bool.not_eq_false', Bool.and_eq_true, Bool.or_eq_true, Bool.or_eq_false_iff, Bool.and_eq_false_iff, decide_eq_true_eq, decide_eq_false_iff_not, beq_iff_eq, beq_eq_false_iff_ne, ne_eq] at h9
      refine wp_seq_k (fun K hK => ?_); refine wp_region_lit ?_
      refine o_fld HE rfl rfl T.f25_2 ?_; clear HE; intro a HE
      refine o_ld HE rfl HS rfl T.s9 (.here .here) rfl ?_; clear HE; intro a HE
      refine o_eqS HE rfl rfl rfl ?_; clear HE; intro a HE
      refine o_assign HE rfl rfl ?_; clear HE; intro a HE
      refine hK _ _ ?_; clear hK K
      refine wp_ret ?_
      show Q .ret _ _
      refine ret hQ HE rfl (HE.res rfl .nil) ⟨_, _, HS.stop (List.nil_sublist _), rfl, ?_⟩
      show _ = _
      simp only [packed, Value.bool.injEq]
      symm
      unfold rightV
      rw [if_neg h6]
      rw [if_pos h9]
      first | done | rfl | simp
    · have h9r := h9; try simp only [Bool.not_eq_true', Bool.not_eq_false', Bool.and_eq_true, Bool.or_eq_true, Bool.or_eq_false_iff, Bool.and_eq_false_iff, decide_eq_true_eq, decide_eq_false_iff_not, beq_iff_eq, beq_eq_false_iff_ne, ne_eq] at h9
      refine wp_seq_k (fun K hK => ?_); refine wp_region_lit ?_
      refine o_eqI HE rfl rfl rfl ?_; clear HE; intro a HE
      refine o_assign HE rfl rfl ?_; clear HE; intro a HE
      refine hK _ _ ?_; clear hK K
      refine cond HE rfl (fun h12 => ?_) (fun h12 => ?_)
      · have h12r := h12; try simp only [Bool.not_eq_true', Bool.not_eq_false', Bool.and_eq_true, Bool.or_eq_true, Bool.or_eq_false_iff, Bool.and_eq_false_iff, decide_eq_true_eq, decide_eq_false_iff_not, beq_iff_eq, beq_eq_false_iff_ne, ne_eq] at h12
        refine wp_seq_k (fun K hK => ?_); refine wp_region_lit ?_
        refine o_fld HE rfl rfl T.f25_1 ?_; clear HE; intro a HE
        refine o_ld HE rfl HS rfl T.s2 (.here .here) rfl ?_; clear HE; intro a HE
        refine o_eqI HE rfl rfl rfl ?_; clear HE; intro a HE
        refine o_move HE rfl rfl ?_; clear HE; intro a HE
        obtain ⟨M0, hM0, HS⟩ : ∃ M0, M0 = _ ∧ St w0 G [] G _ M0 := ⟨_, rfl, HS⟩
        refine cutL 4 (fun a' w' => St w0 G [] G w' M0 ∧ Env a' 33 [] [(24, .bool ((decide (x.n = 0)) && (isWordB x.s))), (0, .agg #[.int .i64 x.k, .int .i64 x.n, str x.s]), (1, .pointer (some ⟨B1, 0, none⟩)), (2, .bool false), (3, .pointer (some ⟨B1, 0, none⟩)), (4, .int .i64 x.k), (5, .bool (decide (x.k = 0))), (6, .bool (decide (x.k = 0))), (10, .bool (decide (x.k = 1))), (11, .bool (decide (x.k = 1))), (15, .bool (decide (x.k = 2))), (16, .bool (decide (x.k = 2)))]) ?_ ?_
        · refine (Bool.eq_false_or_eq_true (decide (x.n = 0))).elim (fun hb13 => ?_) (fun hb13 => ?_)
          · subst hM0
            have hk14 := hb13; try simp only [Bool.not_eq_true', Bool.not_eq_false', Bool.and_eq_true, Bool.or_eq_true, Bool.or_eq_false_iff, decide_eq_true_eq, decide_eq_false_iff_not, beq_iff_eq, beq_eq_false_iff_ne, ne_eq] at hk14
            refine op_on HE rfl rfl hb13 ?_
            refine o_fld HE rfl rfl T.f25_2 ?_; clear HE; intro a HE
            refine op_on HE rfl rfl hb13 ?_
            refine o_ld HE rfl HS rfl T.s9 (.here .here) rfl ?_; clear HE; intro a HE
            refine op_on HE rfl rfl hb13 ?_
            refine o_callP HE rfl HS rfl rfl T.g11 (c_isWord x.s _ _ HS.sub (by first | omega | exact hv.s | (simp; done) | (simp; omega))) ?_
            clear HE HS; rintro _ w a HS rfl HE
            refine o_pick_t HE rfl rfl hb13 rfl ?_; clear HE; intro a HE
            exact ⟨HS, HE.cut ⟨by rw [hb13]; rfl, rfl, rfl, rfl, rfl, rfl, rfl, rfl, rfl, rfl, rfl, rfl, trivial⟩⟩
          · subst hM0
            have hk15 := hb13; try simp only [Bool.not_eq_true', Bool.not_eq_false', Bool.and_eq_true, Bool.or_eq_true, Bool.or_eq_false_iff, decide_eq_true_eq, decide_eq_false_iff_not, beq_iff_eq, beq_eq_false_iff_ne, ne_eq] at hk15
            refine g_off HE rfl rfl rfl hb13 ?_; clear HE; intro a HE
            refine g_off HE rfl rfl rfl hb13 ?_; clear HE; intro a HE
            refine g_off HE rfl rfl rfl hb13 ?_; clear HE; intro a HE
            refine o_pick_f HE rfl rfl hb13 rfl ?_; clear HE; intro a HE
            exact ⟨HS, HE.cut ⟨by rw [hb13]; rfl, rfl, rfl, rfl, rfl, rfl, rfl, rfl, rfl, rfl, rfl, rfl, trivial⟩⟩
        clear HE HS; rintro a w ⟨HS, HE⟩; subst hM0
        refine o_assign HE rfl rfl ?_; clear HE; intro a HE
        refine hK _ _ ?_; clear hK K
        refine wp_ret ?_
        show Q .ret _ _
        refine ret hQ HE rfl (HE.res rfl .nil) ⟨_, _, HS.stop (List.nil_sublist _), rfl, ?_⟩
        show _ = _
        simp only [packed, Value.bool.injEq]
        symm
        unfold rightV
        rw [if_neg h6]
        rw [if_neg h9]
        rw [if_pos h12]
        first | done | rfl | simp
      · have h12r := h12; try simp only [Bool.not_eq_true', Bool.not_eq_false', Bool.and_eq_true, Bool.or_eq_true, Bool.or_eq_false_iff, Bool.and_eq_false_iff, decide_eq_true_eq, decide_eq_false_iff_not, beq_iff_eq, beq_eq_false_iff_ne, ne_eq] at h12
        refine wp_skip ?_
        refine hK2 _ _ ?_; clear hK2
        refine wp_seq_k (fun K hK => ?_); refine wp_region_lit ?_
        refine o_ldA HE rfl HS rfl T.a25 (.here .here) rfl ?_; clear HE; intro a HE
        refine o_ldIA HE rfl HS rfl hg0 T.a25 ?_; clear HE; intro a HE
        refine o_eqA (b := decide (x.k = 3) && (decide (x.n = 1) && (x.s == [] && true))) HE rfl rfl rfl T.q25 rfl rfl ?_; clear HE; intro a HE
        refine o_move HE rfl rfl ?_; clear HE; intro a HE
        refine cutL 4 (fun a' w' => w = w' ∧ Env a' 33 [] [(32, .bool ((decide (x.k = 3) && (decide (x.n = 1) && (x.s == [] && true))) || (decide (x.k = 3) && (decide (x.n = 0) && (x.s == [] && true))))), (0, .agg #[.int .i64 x.k, .int .i64 x.n, str x.s]), (1, .pointer (some ⟨B1, 0, none⟩)), (2, .bool false), (3, .pointer (some ⟨B1, 0, none⟩)), (4, .int .i64 x.k), (5, .bool (decide (x.k = 0))), (6, .bool (decide (x.k = 0))), (10, .bool (decide (x.k = 1))), (11, .bool (decide (x.k = 1))), (15, .bool (decide (x.k = 2))), (16, .bool (decide (x.k = 2)))]) ?_ ?_
        · refine (Bool.eq_false_or_eq_true (decide (x.k = 3) && (decide (x.n = 1) && (x.s == [] && true)))).elim (fun hb17 => ?_) (fun hb17 => ?_)
          · skip
            have hk18 := hb17; try simp only [Bool.not_eq_true', Bool.not_eq_false', Bool.and_eq_true, Bool.or_eq_true, Bool.or_eq_false_iff, decide_eq_true_eq, decide_eq_false_iff_not, beq_iff_eq, beq_eq_false_iff_ne, ne_eq] at hk18
            refine g_off HE rfl rfl rfl hb17 ?_; clear HE; intro a HE
            refine g_off HE rfl rfl rfl hb17 ?_; clear HE; intro a HE
            refine g_off HE rfl rfl rfl hb17 ?_; clear HE; intro a HE
            refine o_pick_t HE rfl rfl hb17 rfl ?_; clear HE; intro a HE
            exact ⟨rfl, HE.cut ⟨by rw [hb17]; rfl, rfl, rfl, rfl, rfl, rfl, rfl, rfl, rfl, rfl, rfl, rfl, trivial⟩⟩
          · skip
            have hk19 := hb17; try simp only [Bool.not_eq_true', Bool.not_eq_false', Bool.and_eq_true, Bool.or_eq_true, Bool.or_eq_false_iff, decide_eq_true_eq, decide_eq_false_iff_not, beq_iff_eq, beq_eq_false_iff_ne, ne_eq] at hk19
            refine op_on HE rfl rfl hb17 ?_
            refine o_ldA HE rfl HS rfl T.a25 (.here .here) rfl ?_; clear HE; intro a HE
            refine op_on HE rfl rfl hb17 ?_
            refine o_ldIA HE rfl HS rfl hg1 T.a25 ?_; clear HE; intro a HE
            refine op_on HE rfl rfl hb17 ?_
            refine o_eqA (b := decide (x.k = 3) && (decide (x.n = 0) && (x.s == [] && true))) HE rfl rfl rfl T.q25 rfl rfl ?_; clear HE; intro a HE
            refine o_pick_f HE rfl rfl hb17 rfl ?_; clear HE; intro a HE
            exact ⟨rfl, HE.cut ⟨by rw [hb17]; rfl, rfl, rfl, rfl, rfl, rfl, rfl, rfl, rfl, rfl, rfl, rfl, trivial⟩⟩
        clear HE; rintro a _ ⟨rfl, HE⟩
        refine o_assign HE rfl rfl ?_; clear HE; intro a HE
        refine hK _ _ ?_; clear hK K
        refine wp_ret ?_
        show Q .ret _ _
        refine ret hQ HE rfl (HE.res rfl .nil) ⟨_, _, HS.stop (List.nil_sublist _), rfl, ?_⟩
        show _ = _
        simp only [packed, Value.bool.injEq]
        symm
        unfold rightV
        rw [if_neg h6]
        rw [if_neg h9]
        rw [if_neg h12]
        by_cases h3 : x.k = 3
        · rw [if_pos h3]; simp only [h3, decide_true, Bool.true_and, Bool.and_true]; cases decide (x.n = 0) <;> cases decide (x.n = 1) <;> cases (x.s == ([] : Bs)) <;> rfl
        · rw [if_neg h3, decide_eq_false h3]; rfl

/-! `incognito/incognitoref07.Right` -/
set_option maxRecDepth 100000 in
set_option maxHeartbeats 4000000 in
theorem c_Right7 (x : Val) (w0 : World) (G : Heap) (hG : Sub G w0) (hv : x.Wf):
    Calls Tryd.prog 18 #[.agg #[.int .i64 x.k, .int .i64 x.n, str x.s]] w0 (Ret w0 G (fun v _ => v = .bool (rightV x))) := by
  refine enter Tryd.func18 rfl Tryd.ntmps18 rfl ?_
  intro Q hQ a HE
  have HS := St.start0 hG
  refine wp_seq_k (fun K hK => ?_); refine wp_region_lit ?_
  refine o_boxL [(0, _), (1, _), (2, _)] HE rfl HS rfl ⟨rfl, rfl, rfl, trivial⟩ ?_; clear HE HS; intro B1 w a HS HE
  refine o_assign HE rfl rfl ?_; clear HE; intro a HE
  refine hK _ _ ?_; clear hK K
  refine wp_seq_k (fun K3 hK2 => ?_)
  refine wp_seq_k (fun K hK => ?_); refine wp_region_lit ?_
  refine o_fld HE rfl rfl T.f25_0 ?_; clear HE; intro a HE
  refine o_ld HE rfl HS rfl T.s3 (.here .here) rfl ?_; clear HE; intro a HE
  refine hK _ _ ?_; clear hK K
  refine wp_block ?_
  refine wp_seq_k (fun K hK => ?_); refine wp_region_lit ?_
  refine o_eqI HE rfl rfl rfl ?_; clear HE; intro a HE
  refine o_assign HE rfl rfl ?_; clear HE; intro a HE
  refine hK _ _ ?_; clear hK K
  refine cond HE rfl (fun h6 => ?_) (fun h6 => ?_)
  · have h6r := h6; try simp only [Bool.not_eq_true', Bool.not_eq_false', Bool.and_eq_true, Bool.or_eq_true, Bool.or_eq_false_iff, Bool.and_eq_false_iff, decide_eq_true_eq, decide_eq_false_iff_not, beq_iff_eq, beq_eq_false_iff_ne, ne_eq] at h6
    refine wp_seq_k (fun K hK => ?_); refine wp_region_lit ?_
    refine o_fld HE rfl rfl T.f25_1 ?_; clear HE; intro a HE
    refine o_ld HE rfl HS rfl T.s2 (.here .here) rfl ?_; clear HE; intro a HE
    refine o_eqI HE rfl rfl rfl ?_; clear HE; intro a HE
    refine o_move HE rfl rfl ?_; clear HE; intro a HE
    refine cutL 4 (fun a' w' => w = w' ∧ Env a' 45 [] [(14, .bool ((decide (x.n = 0)) && (x.s == []))), (0, .agg #[.int .i64 x.k, .int .i64 x.n, str x.s]), (1, .pointer (some ⟨B1, 0, none⟩)), (2, .bool false), (3, .pointer (some ⟨B1, 0, none⟩)), (4, .int .i64 x.k), (5, .bool (decide (x.k = 0))), (6, .bool (decide (x.k = 0)))]) ?_ ?_
    · refine (Bool.eq_false_or_eq_true (decide (x.n = 0))).elim (fun hb7 => ?_) (fun hb7 => ?_)
      · skip
        have hk8 := hb7; try simp only [Bool.not_eq_true', Bool.not_eq_false', Bool.and_eq_true, Bool.or_eq_true, Bool.or_eq_false_iff, decide_eq_true_eq, decide_eq_false_iff_not, beq_iff_eq, beq_eq_false_iff_ne, ne_eq] at hk8
        refine op_on HE rfl rfl hb7 ?_
        refine o_fld HE rfl rfl T.f25_2 ?_; clear HE; intro a HE
        refine op_on HE rfl rfl hb7 ?_
        refine o_ld HE rfl HS rfl T.s9 (.here .here) rfl ?_; clear HE; intro a HE
        refine op_on HE rfl rfl hb7 ?_
        refine o_eqS HE rfl rfl rfl ?_; clear HE; intro a HE
        refine o_pick_t HE rfl rfl hb7 rfl ?_; clear HE; intro a HE
        exact ⟨rfl, HE.cut ⟨by rw [hb7]; rfl, rfl, rfl, rfl, rfl, rfl, rfl, rfl, trivial⟩⟩
      · skip
        have hk9 := hb7; try simp only [Bool.not_eq_true', Bool.not_eq_false', Bool.and_eq_true, Bool.or_eq_true, Bool.or_eq_false_iff, decide_eq_true_eq, decide_eq_false_iff_not, beq_iff_eq, beq_eq_false_iff_ne, ne_eq] at hk9
        refine g_off HE rfl rfl rfl hb7 ?_; clear HE; intro a HE
        refine g_off HE rfl rfl rfl hb7 ?_; clear HE; intro a HE
        refine g_off HE rfl rfl rfl hb7 ?_; clear HE; intro a HE
        refine o_pick_f HE rfl rfl hb7 rfl ?_; clear HE; intro a HE
        exact ⟨rfl, HE.cut ⟨by rw [hb7]; rfl, rfl, rfl, rfl, rfl, rfl, rfl, rfl, trivial⟩⟩
    clear HE; rintro a _ ⟨rfl, HE⟩
    refine o_assign HE rfl rfl ?_; clear HE; intro a HE
    refine hK _ _ ?_; clear hK K
    refine wp_ret ?_
    show Q .ret _ _
    refine ret hQ HE rfl (HE.res rfl .nil) ⟨_, _, HS.stop (List.nil_sublist _), rfl, ?_⟩
    show _ = _
    simp only [packed, Value.bool.injEq]
    symm
    unfold rightV
    rw [if_pos h6]
    first | done | rfl | simp
  · have h6r := h6; try simp only [Bool.not_eq_true', Bool.not_eq_false', Bool.and_eq_true, Bool.or_eq_true, Bool.or_eq_false_iff, Bool.and_eq_false_iff, decide_eq_true_eq, decide_eq_false_iff_not, beq_iff_eq, beq_eq_false_iff_ne, ne_eq] at h6
    refine wp_seq_k (fun K hK => ?_); refine wp_region_lit ?_
    refine o_eqI HE rfl rfl rfl ?_; clear HE; intro a HE
    refine o_assign HE rfl rfl ?_; clear HE; intro a HE
    refine hK _ _ ?_; clear hK K
    refine cond HE rfl (fun h12 => ?_) (fun h12 => ?_)
    · have h12r := h12; try simp only [Bool.not_eq_true', Bool.not_eq_false', Bool.and_eq_true, Bool.or_eq_true, Bool.or_eq_false_iff, Bool.and_eq_false_iff, decide_eq_true_eq, decide_eq_false_iff_not, beq_iff_eq, beq_eq_false_iff_ne, ne_eq] at h12
      refine wp_seq_k (fun K hK => ?_); refine wp_region_lit ?_
      refine o_fld HE rfl rfl T.f25_2 ?_; clear HE; intro a HE
      refine o_ld HE rfl HS rfl T.s9 (.here .here) rfl ?_; clear HE; intro a HE
      refine o_eqS HE rfl rfl rfl ?_; clear HE; intro a HE
      refine o_assign HE rfl rfl ?_; clear HE; intro a HE
      refine hK _ _ ?_; clear hK K
      refine wp_ret ?_
      show Q .ret _ _
      refine ret hQ HE rfl (HE.res rfl .nil) ⟨_, _, HS.stop (List.nil_sublist _), rfl, ?_⟩
      show _ = _
      simp only [packed, Value.bool.injEq]
      symm
      unfold rightV
      rw [if_neg h6]
      rw [if_pos h12]
      first | done | rfl | simp
    · have h12r := h12; try simp only [Bool.not_eq_true', Bool.not_eq_false', Bool.and_eq_true, Bool.or_eq_true, Bool.or_eq_false_iff, Bool.and_eq_false_iff, decide_eq_true_eq, decide_eq_false_iff_not, beq_iff_eq, beq_eq_false_iff_ne, ne_eq] at h12
      refine wp_seq_k (fun K hK => ?_); refine wp_region_lit ?_
      refine o_eqI HE rfl rfl rfl ?_; clear HE; intro a HE
      refine o_assign HE rfl rfl ?_; clear HE; intro a HE
      refine hK _ _ ?_; clear hK K
      refine cond HE rfl (fun h15 => ?_) (fun h15 => ?_)
      · have h15r := h15; try simp only [Bool.not_eq_true', Bool.not_eq_false', Bool.and_eq_true, Bool.or_eq_true, Bool.or_eq_false_iff, Bool.and_eq_false_iff, decide_eq_true_eq, decide_eq_false_iff_not, beq_iff_eq, beq_eq_false_iff_ne, ne_eq] at h15
        refine wp_seq_k (fun K hK => ?_); refine wp_region_lit ?_
        refine o_fld HE rfl rfl T.f25_1 ?_; clear HE; intro a HE
        refine o_ld HE rfl HS rfl T.s2 (.here .here) rfl ?_; clear HE; intro a HE
        refine o_eqI HE rfl rfl rfl ?_; clear HE; intro a HE
        refine o_move HE rfl rfl ?_; clear HE; intro a HE
        obtain ⟨M0, hM0, HS⟩ : ∃ M0, M0 = _ ∧ St w0 G [] G _ M0 := ⟨_, rfl, HS⟩
        refine cutL 4 (fun a' w' => St w0 G [] G w' M0 ∧ Env a' 45 [] [(29, .bool ((decide (x.n = 0)) && (isWordB x.s))), (0, .agg #[.int .i64 x.k, .int .i64 x.n, str x.s]), (1, .pointer (some ⟨B1, 0, none⟩)), (2, .bool false), (3, .pointer (some ⟨B1, 0, none⟩)), (4, .int .i64 x.k), (5, .bool (decide (x.k = 0))), (6, .bool (decide (x.k = 0))), (15, .bool (decide (x.k = 1))), (16, .bool (decide (x.k = 1))), (20, .bool (decide (x.k = 2))), (21, .bool (decide (x.k = 2)))]) ?_ ?_
        · refine (Bool.eq_false_or_eq_true (decide (x.n = 0))).elim (fun hb16 => ?_) (fun hb16 => ?_)
          · subst hM0
            have hk17 := hb16; try simp only [Bool.not_eq_true', Bool.not_eq_false', Bool.and_eq_true, Bool.or_eq_true, Bool.or_eq_false_iff, decide_eq_true_eq, decide_eq_false_iff_not, beq_iff_eq, beq_eq_false_iff_ne, ne_eq] at hk17
            refine op_on HE rfl rfl hb16 ?_
            refine o_fld HE rfl rfl T.f25_2 ?_; clear HE; intro a HE
            refine op_on HE rfl rfl hb16 ?_
            refine o_ld HE rfl HS rfl T.s9 (.here .here) rfl ?_; clear HE; intro a HE
            refine op_on HE rfl rfl hb16 ?_
            refine o_callP HE rfl HS rfl rfl T.g12 (c_IsWord x.s _ _ HS.sub (by first | omega | exact hv.s | (simp; done) | (simp; omega))) ?_
            clear HE HS; rintro _ w a HS rfl HE
            refine o_pick_t HE rfl rfl hb16 rfl ?_; clear HE; intro a HE
            exact ⟨HS, HE.cut ⟨by rw [hb16]; rfl, rfl, rfl, rfl, rfl, rfl, rfl, rfl, rfl, rfl, rfl, rfl, trivial⟩⟩
          · subst hM0
            have hk18 := hb16; try simp only [Bool.not_eq_true', Bool.not_eq_false', Bool.and_eq_true, Bool.or_eq_true, Bool.or_eq_false_iff, decide_eq_true_eq, decide_eq_false_iff_not, beq_iff_eq, beq_eq_false_iff_ne, ne_eq] at hk18
            refine g_off HE rfl rfl rfl hb16 ?_; clear HE; intro a HE
            refine g_off HE rfl rfl rfl hb16 ?_; clear HE; intro a HE
            refine g_off HE rfl rfl rfl hb16 ?_; clear HE; intro a HE
            refine o_pick_f HE rfl rfl hb16 rfl ?_; clear HE; intro a HE
            exact ⟨HS, HE.cut ⟨by rw [hb16]; rfl, rfl, rfl, rfl, rfl, rfl, rfl, rfl, rfl, rfl, rfl, rfl, trivial⟩⟩
        clear HE HS; rintro a w ⟨HS, HE⟩; subst hM0
        refine o_assign HE rfl rfl ?_; clear HE; intro a HE
        refine hK _ _ ?_; clear hK K
        refine wp_ret ?_
        show Q .ret _ _
        refine ret hQ HE rfl (HE.res rfl .nil) ⟨_, _, HS.stop (List.nil_sublist _), rfl, ?_⟩
        show _ = _
        simp only [packed, Value.bool.injEq]
        symm
        unfold rightV
        rw [if_neg h6]
        rw [if_neg h12]
        rw [if_pos h15]
        first | done | rfl | simp
      · have h15r := h15; try simp only [Bool.not_eq_true', Bool.not_eq_false', Bool.and_eq_true, Bool.or_eq_true, Bool.or_eq_false_iff, Bool.and_eq_false_iff, decide_eq_true_eq, decide_eq_false_iff_not, beq_iff_eq, beq_eq_false_iff_ne, ne_eq] at h15
        refine wp_seq_k (fun K hK => ?_); refine wp_region_lit ?_
        refine o_eqI HE rfl rfl rfl ?_; clear HE; intro a HE
        refine o_assign HE rfl rfl ?_; clear HE; intro a HE
        refine hK _ _ ?_; clear hK K
        refine cond HE rfl (fun h21 => ?_) (fun h21 => ?_)
        · have h21r := h21; try simp only [Bool.not_eq_true', Bool.not_eq_false', Bool.and_eq_true, Bool.or_eq_true, Bool.or_eq_false_iff, Bool.and_eq_false_iff, decide_eq_true_eq, decide_eq_false_iff_not, beq_iff_eq, beq_eq_false_iff_ne, ne_eq] at h21
          refine wp_seq_k (fun K hK => ?_); refine wp_region_lit ?_
          refine o_fld HE rfl rfl T.f25_1 ?_; clear HE; intro a HE
          refine o_ld HE rfl HS rfl T.s2 (.here .here) rfl ?_; clear HE; intro a HE
          refine o_eqI HE rfl rfl rfl ?_; clear HE; intro a HE
          refine o_move HE rfl rfl ?_; clear HE; intro a HE
          refine cutL 4 (fun a' w' => w = w' ∧ Env a' 45 [] [(39, .bool ((decide (x.n = 0)) || (decide (x.n = 1)))), (0, .agg #[.int .i64 x.k, .int .i64 x.n, str x.s]), (1, .pointer (some ⟨B1, 0, none⟩)), (2, .bool false), (3, .pointer (some ⟨B1, 0, none⟩)), (4, .int .i64 x.k), (5, .bool (decide (x.k = 0))), (6, .bool (decide (x.k = 0))), (15, .bool (decide (x.k = 1))), (16, .bool (decide (x.k = 1))), (20, .bool (decide (x.k = 2))), (21, .bool (decide (x.k = 2))), (30, .bool (decide (x.k = 3))), (31, .bool (decide (x.k = 3)))]) ?_ ?_
          · refine (Bool.eq_false_or_eq_true (decide (x.n = 0))).elim (fun hb22 => ?_) (fun hb22 => ?_)
            · skip
              have hk23 := hb22; try simp only [Bool.not_eq_true', Bool.not_eq_false', Bool.and_eq_true, Bool.or_eq_true, Bool.or_eq_false_iff, decide_eq_true_eq, decide_eq_false_iff_not, beq_iff_eq, beq_eq_false_iff_ne, ne_eq] at hk23
              refine g_off HE rfl rfl rfl hb22 ?_; clear HE; intro a HE
              refine g_off HE rfl rfl rfl hb22 ?_; clear HE; intro a HE
              refine g_off HE rfl rfl rfl hb22 ?_; clear HE; intro a HE
              refine o_pick_t HE rfl rfl hb22 rfl ?_; clear HE; intro a HE
              exact ⟨rfl, HE.cut ⟨by rw [hb22]; rfl, rfl, rfl, rfl, rfl, rfl, rfl, rfl, rfl, rfl, rfl, rfl, rfl, rfl, trivial⟩⟩
            · skip
              have hk24 := hb22; try simp only [Bool.not_eq_true', Bool.not_eq_false', Bool.and_eq_true, Bool.or_eq_true, Bool.or_eq_false_iff, decide_eq_true_eq, decide_eq_false_iff_not, beq_iff_eq, beq_eq_false_iff_ne, ne_eq] at hk24
              refine op_on HE rfl rfl hb22 ?_
              refine o_fld HE rfl rfl T.f25_1 ?_; clear HE; intro a HE
              refine op_on HE rfl rfl hb22 ?_
              refine o_ld HE rfl HS rfl T.s2 (.here .here) rfl ?_; clear HE; intro a HE
              refine op_on HE rfl rfl hb22 ?_
              refine o_eqI HE rfl rfl rfl ?_; clear HE; intro a HE
              refine o_pick_f HE rfl rfl hb22 rfl ?_; clear HE; intro a HE
              exact ⟨rfl, HE.cut ⟨by rw [hb22]; rfl, rfl, rfl, rfl, rfl, rfl, rfl, rfl, rfl, rfl, rfl, rfl, rfl, rfl, trivial⟩⟩
          clear HE; rintro a _ ⟨rfl, HE⟩
          refine o_move HE rfl rfl ?_; clear HE; intro a HE
          refine cutL 4 (fun a' w' => w = w' ∧ Env a' 45 [] [(44, .bool (((decide (x.n = 0)) || (decide (x.n = 1))) && (x.s == []))), (0, .agg #[.int .i64 x.k, .int .i64 x.n, str x.s]), (1, .pointer (some ⟨B1, 0, none⟩)), (2, .bool false), (3, .pointer (some ⟨B1, 0, none⟩)), (4, .int .i64 x.k), (5, .bool (decide (x.k = 0))), (6, .bool (decide (x.k = 0))), (15, .bool (decide (x.k = 1))), (16, .bool (decide (x.k = 1))), (20, .bool (decide (x.k = 2))), (21, .bool (decide (x.k = 2))), (30, .bool (decide (x.k = 3))), (31, .bool (decide (x.k = 3)))]) ?_ ?_
          · refine (Bool.eq_false_or_eq_true ((decide (x.n = 0)) || (decide (x.n = 1)))).elim (fun hb25 => ?_) (fun hb25 => ?_)
            · skip
              have hk26 := hb25; try simp only [Bool.not_eq_true', Bool.not_eq_false', Bool.and_eq_true, Bool.or_eq_true, Bool.or_eq_false_iff, decide_eq_true_eq, decide_eq_false_iff_not, beq_iff_eq, beq_eq_false_iff_ne, ne_eq] at hk26
              refine op_on HE rfl rfl hb25 ?_
              refine o_fld HE rfl rfl T.f25_2 ?_; clear HE; intro a HE
              refine op_on HE rfl rfl hb25 ?_
              refine o_ld HE rfl HS rfl T.s9 (.here .here) rfl ?_; clear HE; intro a HE
              refine op_on HE rfl rfl hb25 ?_
              refine o_eqS HE rfl rfl rfl ?_; clear HE; intro a HE
              refine o_pick_t HE rfl rfl hb25 rfl ?_; clear HE; intro a HE
              exact ⟨rfl, HE.cut ⟨by rw [hb25]; rfl, rfl, rfl, rfl, rfl, rfl, rfl, rfl, rfl, rfl, rfl, rfl, rfl, rfl, trivial⟩⟩
            · skip
              have hk27 := hb25; try simp only [Bool.not_eq_true', Bool.not_eq_false', Bool.and_eq_true, Bool.or_eq_true, Bool.or_eq_false_iff, decide_eq_true_eq, decide_eq_false_iff_not, beq_iff_eq, beq_eq_false_iff_ne, ne_eq] at hk27
              refine g_off HE rfl rfl rfl hb25 ?_; clear HE; intro a HE
              refine g_off HE rfl rfl rfl hb25 ?_; clear HE; intro a HE
              refine g_off HE rfl rfl rfl hb25 ?_; clear HE; intro a HE
              refine o_pick_f HE rfl rfl hb25 rfl ?_; clear HE; intro a HE
              exact ⟨rfl, HE.cut ⟨by rw [hb25]; rfl, rfl, rfl, rfl, rfl, rfl, rfl, rfl, rfl, rfl, rfl, rfl, rfl, rfl, trivial⟩⟩
          clear HE; rintro a _ ⟨rfl, HE⟩
          refine o_assign HE rfl rfl ?_; clear HE; intro a HE
          refine hK _ _ ?_; clear hK K
          refine wp_ret ?_
          show Q .ret _ _
          refine ret hQ HE rfl (HE.res rfl .nil) ⟨_, _, HS.stop (List.nil_sublist _), rfl, ?_⟩
          show _ = _
          simp only [packed, Value.bool.injEq]
          symm
          unfold rightV
          rw [if_neg h6]
          rw [if_neg h12]
          rw [if_neg h15]
          rw [if_pos h21]
          first | done | rfl | simp
        · have h21r := h21; try simp only [Bool.not_eq_true', Bool.not_eq_false', Bool.and_eq_true, Bool.or_eq_true, Bool.or_eq_false_iff, Bool.and_eq_false_iff, decide_eq_true_eq, decide_eq_false_iff_not, beq_iff_eq, beq_eq_false_iff_ne, ne_eq] at h21
          refine wp_skip ?_
          refine hK2 _ _ ?_; clear hK2
          refine wp_seq_k (fun K hK => ?_); refine wp_region_lit ?_
          refine o_assign HE rfl rfl ?_; clear HE; intro a HE
          refine hK _ _ ?_; clear hK K
          refine wp_ret ?_
          show Q .ret _ _
          refine ret hQ HE rfl (HE.res rfl .nil) ⟨_, _, HS.stop (List.nil_sublist _), rfl, ?_⟩
          show _ = _
          simp only [packed, Value.bool.injEq]
          symm
          unfold rightV
          rw [if_neg h6]
          rw [if_neg h12]
          rw [if_neg h15]
          rw [if_neg h21]
          first | done | rfl | simp

/-! `incognito/value.Print` -/
set_option maxRecDepth 100000 in
set_option maxHeartbeats 4000000 in
theorem c_print7 (x : Val) (w0 : World) (G : Heap) (hG : Sub G w0) (hg0 : CellsAt G 0 0 [.int .i64 3, .int .i64 1, str []]) (hg1 : CellsAt G 1 0 [.int .i64 3, .int .i64 0, str []]) (hT : TabG G 3 .u64 Lib.pow10Tab) (hv : x.Wf):
    Calls Tryd.prog 16 #[.agg #[.int .i64 x.k, .int .i64 x.n, str x.s]] w0 (Ret w0 G (fun v _ => v = str (printV x))) := by
  refine enter Tryd.func16 rfl Tryd.ntmps16 rfl ?_
  intro Q hQ a HE
  have HS := St.start0 hG
  refine wp_seq_k (fun K hK => ?_); refine wp_region_lit ?_
  refine o_boxL [(0, _), (1, _), (2, _)] HE rfl HS rfl ⟨rfl, rfl, rfl, trivial⟩ ?_; clear HE HS; intro B1 w a HS HE
  refine o_assign HE rfl rfl ?_; clear HE; intro a HE
  refine hK _ _ ?_; clear hK K
  refine wp_seq_k (fun K3 hK2 => ?_)
  refine wp_block ?_
  refine wp_seq_k (fun K hK => ?_); refine wp_region_lit ?_
  refine o_ldA HE rfl HS rfl T.a25 (.here .here) rfl ?_; clear HE; intro a HE
  refine o_callP HE rfl HS rfl rfl T.g17 (c_right7 x _ _ HS.sub hg0 hg1 (by first | assumption | exact hv | (constructor <;> first | assumption | (simp only [I64]; omega) | (simp; omega)))) ?_
  clear HE HS; rintro _ w a HS rfl HE
  refine o_not HE rfl rfl ?_; clear HE; intro a HE
  refine o_assign HE rfl rfl ?_; clear HE; intro a HE
  refine hK _ _ ?_; clear hK K
  refine cond HE rfl (fun h5 => ?_) (fun h5 => ?_)
  · have h5r := h5; try simp only [Bool.not_eq_true', Bool.not_eq_false', Bool.and_eq_true, Bool.or_eq_true, Bool.or_eq_false_iff, Bool.and_eq_false_iff, decide_eq_true_eq, decide_eq_false_iff_not, beq_iff_eq, beq_eq_false_iff_ne, ne_eq] at h5
    refine wp_seq_k (fun K hK => ?_); refine wp_region_lit ?_
    refine o_assign HE rfl rfl ?_; clear HE; intro a HE
    refine hK _ _ ?_; clear hK K
    refine wp_ret ?_
    show Q .ret _ _
    refine ret hQ HE rfl (HE.res rfl .nil) ⟨_, _, HS.stop (List.nil_sublist _), rfl, ?_⟩
    show _ = _
    unfold printV
    rw [if_pos h5]
    rfl
  · have h5r := h5; try simp only [Bool.not_eq_true', Bool.not_eq_false', Bool.and_eq_true, Bool.or_eq_true, Bool.or_eq_false_iff, Bool.and_eq_false_iff, decide_eq_true_eq, decide_eq_false_iff_not, beq_iff_eq, beq_eq_false_iff_ne, ne_eq] at h5
    refine wp_seq_k (fun K hK => ?_); refine wp_region_lit ?_
    refine o_fld HE rfl rfl T.f25_0 ?_; clear HE; intro a HE
    refine o_ld HE rfl HS rfl T.s3 (.here .here) rfl ?_; clear HE; intro a HE
    refine o_eqI HE rfl rfl rfl ?_; clear HE; intro a HE
    refine o_assign HE rfl rfl ?_; clear HE; intro a HE
    refine hK _ _ ?_; clear hK K
    refine cond HE rfl (fun h8 => ?_) (fun h8 => ?_)
    · have h8r := h8; try simp only [Bool.not_eq_true', Bool.not_eq_false', Bool.and_eq_true, Bool.or_eq_true, Bool.or_eq_false_iff, Bool.and_eq_false_iff, decide_eq_true_eq, decide_eq_false_iff_not, beq_iff_eq, beq_eq_false_iff_ne, ne_eq] at h8
      refine wp_seq_k (fun K hK => ?_); refine wp_region_lit ?_
      refine o_assign HE rfl rfl ?_; clear HE; intro a HE
      refine hK _ _ ?_; clear hK K
      refine wp_ret ?_
      show Q .ret _ _
      refine ret hQ HE rfl (HE.res rfl .nil) ⟨_, _, HS.stop (List.nil_sublist _), rfl, ?_⟩
      show _ = _
      unfold printV
      rw [if_neg (by rw [h5]; decide)]
      repeat (first | rw [if_pos (by omega)] | rw [if_neg (by omega)])
      first | done | rfl
    · have h8r := h8; try simp only [Bool.not_eq_true', Bool.not_eq_false', Bool.and_eq_true, Bool.or_eq_true, Bool.or_eq_false_iff, Bool.and_eq_false_iff, decide_eq_true_eq, decide_eq_false_iff_not, beq_iff_eq, beq_eq_false_iff_ne, ne_eq] at h8
      refine wp_seq_k (fun K hK => ?_); refine wp_region_lit ?_
      refine o_fld HE rfl rfl T.f25_0 ?_; clear HE; intro a HE
      refine o_ld HE rfl HS rfl T.s3 (.here .here) rfl ?_; clear HE; intro a HE
      refine o_eqI HE rfl rfl rfl ?_; clear HE; intro a HE
      refine o_assign HE rfl rfl ?_; clear HE; intro a HE
      refine hK _ _ ?_; clear hK K
      refine cond HE rfl (fun h11 => ?_) (fun h11 => ?_)
      · have h11r := h11; try simp only [Bool.not_eq_true', Bool.not_eq_false', Bool.and_eq_true, Bool.or_eq_true, Bool.or_eq_false_iff, Bool.and_eq_false_iff, decide_eq_true_eq, decide_eq_false_iff_not, beq_iff_eq, beq_eq_false_iff_ne, ne_eq] at h11
        refine wp_seq_k (fun K hK => ?_); refine wp_region_lit ?_
        refine o_fld HE rfl rfl T.f25_1 ?_; clear HE; intro a HE
        refine o_ld HE rfl HS rfl T.s2 (.here .here) rfl ?_; clear HE; intro a HE
        refine o_callP HE rfl HS rfl rfl T.g36 (c_print6 x.n _ _ HS.sub (by first | assumption | exact hv.n | omega) hT) ?_
        clear HE HS; rintro _ w a HS rfl HE
        refine o_assign HE rfl rfl ?_; clear HE; intro a HE
        refine hK _ _ ?_; clear hK K
        refine wp_ret ?_
        show Q .ret _ _
        refine ret hQ HE rfl (HE.res rfl .nil) ⟨_, _, HS.stop (List.nil_sublist _), rfl, ?_⟩
        show _ = _
        unfold printV
        rw [if_neg (by rw [h5]; decide)]
        repeat (first | rw [if_pos (by omega)] | rw [if_neg (by omega)])
        first | done | rfl
      · have h11r := h11; try simp only [Bool.not_eq_true', Bool.not_eq_false', Bool.and_eq_true, Bool.or_eq_true, Bool.or_eq_false_iff, Bool.and_eq_false_iff, decide_eq_true_eq, decide_eq_false_iff_not, beq_iff_eq, beq_eq_false_iff_ne, ne_eq] at h11
        refine wp_seq_k (fun K hK => ?_); refine wp_region_lit ?_
        refine o_fld HE rfl rfl T.f25_0 ?_; clear HE; intro a HE
        refine o_ld HE rfl HS rfl T.s3 (.here .here) rfl ?_; clear HE; intro a HE
        refine o_eqI HE rfl rfl rfl ?_; clear HE; intro a HE
        refine o_assign HE rfl rfl ?_; clear HE; intro a HE
        refine hK _ _ ?_; clear hK K
        refine cond HE rfl (fun h14 => ?_) (fun h14 => ?_)
        · have h14r := h14; try simp only [Bool.not_eq_true', Bool.not_eq_false', Bool.and_eq_true, Bool.or_eq_true, Bool.or_eq_false_iff, Bool.and_eq_false_iff, decide_eq_true_eq, decide_eq_false_iff_not, beq_iff_eq, beq_eq_false_iff_ne, ne_eq] at h14
          refine wp_seq_k (fun K hK => ?_); refine wp_region_lit ?_
          refine o_fld HE rfl rfl T.f25_2 ?_; clear HE; intro a HE
          refine o_ld HE rfl HS rfl T.s9 (.here .here) rfl ?_; clear HE; intro a HE
          refine o_assign HE rfl rfl ?_; clear HE; intro a HE
          refine hK _ _ ?_; clear hK K
          refine wp_ret ?_
          show Q .ret _ _
          refine ret hQ HE rfl (HE.res rfl .nil) ⟨_, _, HS.stop (List.nil_sublist _), rfl, ?_⟩
          show _ = _
          unfold printV
          rw [if_neg (by rw [h5]; decide)]
          repeat (first | rw [if_pos (by omega)] | rw [if_neg (by omega)])
          first | done | rfl
        · have h14r := h14; try simp only [Bool.not_eq_true', Bool.not_eq_false', Bool.and_eq_true, Bool.or_eq_true, Bool.or_eq_false_iff, Bool.and_eq_false_iff, decide_eq_true_eq, decide_eq_false_iff_not, beq_iff_eq, beq_eq_false_iff_ne, ne_eq] at h14
          refine wp_seq_k (fun K hK => ?_); refine wp_region_lit ?_
          refine o_ldA HE rfl HS rfl T.a25 (.here .here) rfl ?_; clear HE; intro a HE
          refine o_ldIA HE rfl HS rfl hg0 T.a25 ?_; clear HE; intro a HE
          refine o_eqA (b := decide (x.k = 3) && (decide (x.n = 1) && (x.s == [] && true))) HE rfl rfl rfl T.q25 rfl rfl ?_; clear HE; intro a HE
          refine o_assign HE rfl rfl ?_; clear HE; intro a HE
          refine hK _ _ ?_; clear hK K
          refine cond HE rfl (fun h17 => ?_) (fun h17 => ?_)
          · have h17r := h17; try simp only [Bool.not_eq_true', Bool.not_eq_false', Bool.and_eq_true, Bool.or_eq_true, Bool.or_eq_false_iff, Bool.and_eq_false_iff, decide_eq_true_eq, decide_eq_false_iff_not, beq_iff_eq, beq_eq_false_iff_ne, ne_eq] at h17
            refine wp_seq_k (fun K hK => ?_); refine wp_region_lit ?_
            refine o_assign HE rfl rfl ?_; clear HE; intro a HE
            refine hK _ _ ?_; clear hK K
            refine wp_ret ?_
            show Q .ret _ _
            refine ret hQ HE rfl (HE.res rfl .nil) ⟨_, _, HS.stop (List.nil_sublist _), rfl, ?_⟩
            have h3 := right3 h5 h8 h11 h14
            have hn1 : x.n = 1 := by have hz := h17r; simp at hz; exact hz.2.1
            show _ = _
            unfold printV
            rw [if_neg (by rw [h5]; decide)]
            repeat (first | rw [if_pos (by omega)] | rw [if_neg (by omega)])
            first | done | rfl
          · have h17r := h17; try simp only [Bool.not_eq_true', Bool.not_eq_false', Bool.and_eq_true, Bool.or_eq_true, Bool.or_eq_false_iff, Bool.and_eq_false_iff, decide_eq_true_eq, decide_eq_false_iff_not, beq_iff_eq, beq_eq_false_iff_ne, ne_eq] at h17
            refine wp_skip ?_
            refine hK2 _ _ ?_; clear hK2
            refine wp_seq_k (fun K hK => ?_); refine wp_region_lit ?_
            refine o_assign HE rfl rfl ?_; clear HE; intro a HE
            refine hK _ _ ?_; clear hK K
            refine wp_ret ?_
            show Q .ret _ _
            refine ret hQ HE rfl (HE.res rfl .nil) ⟨_, _, HS.stop (List.nil_sublist _), rfl, ?_⟩
            have h3 := right3 h5 h8 h11 h14
            have hn1 : ¬ x.n = 1 := fun e => by have hz := h17r; rw [h3.1, h3.2, e] at hz; exact absurd hz (by decide)
            show _ = _
            unfold printV
            rw [if_neg (by rw [h5]; decide)]
            repeat (first | rw [if_pos (by omega)] | rw [if_neg (by omega)])
            first | done | rfl

/-! `incognito/incognitoref07.Print` -/
set_option maxRecDepth 100000 in
set_option maxHeartbeats 4000000 in
theorem c_Print7 (x : Val) (w0 : World) (G : Heap) (hG : Sub G w0) (hv : x.Wf):
    Calls Tryd.prog 19 #[.agg #[.int .i64 x.k, .int .i64 x.n, str x.s]] w0 (Ret w0 G (fun v _ => v = str (printV x))) := by
  refine enter Tryd.func19 rfl Tryd.ntmps19 rfl ?_
  intro Q hQ a HE
  have HS := St.start0 hG
  refine wp_seq_k (fun K hK => ?_); refine wp_region_lit ?_
  refine o_boxL [(0, _), (1, _), (2, _)] HE rfl HS rfl ⟨rfl, rfl, rfl, trivial⟩ ?_; clear HE HS; intro B1 w a HS HE
  refine o_assign HE rfl rfl ?_; clear HE; intro a HE
  refine hK _ _ ?_; clear hK K
  refine wp_seq_k (fun K3 hK2 => ?_)
  refine wp_seq_k (fun K hK => ?_); refine wp_region_lit ?_
  refine o_ldA HE rfl HS rfl T.a25 (.here .here) rfl ?_; clear HE; intro a HE
  refine o_callP HE rfl HS rfl rfl T.g18 (c_Right7 x _ _ HS.sub (by first | assumption | exact hv | (constructor <;> first | assumption | (simp only [I64]; omega) | (simp; omega)))) ?_
  clear HE HS; rintro _ w a HS rfl HE
  refine o_not HE rfl rfl ?_; clear HE; intro a HE
  refine hK _ _ ?_; clear hK K
  refine cond HE rfl (fun h5 => ?_) (fun h5 => ?_)
  · have h5r := h5; try simp only [Bool.not_eq_true', Bool.not_eq_false', Bool.and_eq_true, Bool.or_eq_true, Bool.or_eq_false_iff, Bool.and_eq_false_iff, decide_eq_true_eq, decide_eq_false_iff_not, beq_iff_eq, beq_eq_false_iff_ne, ne_eq] at h5
    refine wp_seq_k (fun K hK => ?_); refine wp_region_lit ?_
    refine o_assign HE rfl rfl ?_; clear HE; intro a HE
    refine hK _ _ ?_; clear hK K
    refine wp_ret ?_
    show Q .ret _ _
    refine ret hQ HE rfl (HE.res rfl .nil) ⟨_, _, HS.stop (List.nil_sublist _), rfl, ?_⟩
    show _ = _
    unfold printV
    rw [if_pos h5]
    rfl
  · have h5r := h5; try simp only [Bool.not_eq_true', Bool.not_eq_false', Bool.and_eq_true, Bool.or_eq_true, Bool.or_eq_false_iff, Bool.and_eq_false_iff, decide_eq_true_eq, decide_eq_false_iff_not, beq_iff_eq, beq_eq_false_iff_ne, ne_eq] at h5
    refine wp_skip ?_
    refine hK2 _ _ ?_; clear hK2
    refine wp_seq_k (fun K8 hK7 => ?_)
    refine wp_seq_k (fun K hK => ?_); refine wp_region_lit ?_
    refine o_fld HE rfl rfl T.f25_0 ?_; clear HE; intro a HE
    refine o_ld HE rfl HS rfl T.s3 (.here .here) rfl ?_; clear HE; intro a HE
    refine o_eqI HE rfl rfl rfl ?_; clear HE; intro a HE
    refine hK _ _ ?_; clear hK K
    refine cond HE rfl (fun h10 => ?_) (fun h10 => ?_)
    · have h10r := h10; try simp only [Bool.not_eq_true', Bool.not_eq_false', Bool.and_eq_true, Bool.or_eq_true, Bool.or_eq_false_iff, Bool.and_eq_false_iff, decide_eq_true_eq, decide_eq_false_iff_not, beq_iff_eq, beq_eq_false_iff_ne, ne_eq] at h10
      refine wp_seq_k (fun K hK => ?_); refine wp_region_lit ?_
      refine o_fld HE rfl rfl T.f25_1 ?_; clear HE; intro a HE
      refine o_ld HE rfl HS rfl T.s2 (.here .here) rfl ?_; clear HE; intro a HE
      refine o_callP HE rfl HS rfl rfl T.g37 (c_Print6 x.n _ _ HS.sub (by first | assumption | exact hv.n | omega)) ?_
      clear HE HS; rintro _ w a HS rfl HE
      refine o_assign HE rfl rfl ?_; clear HE; intro a HE
      refine hK _ _ ?_; clear hK K
      refine wp_ret ?_
      show Q .ret _ _
      refine ret hQ HE rfl (HE.res rfl .nil) ⟨_, _, HS.stop (List.nil_sublist _), rfl, ?_⟩
      show _ = _
      unfold printV
      rw [if_neg (by rw [h5]; decide)]
      repeat (first | rw [if_pos (by omega)] | rw [if_neg (by omega)])
      first | done | rfl
    · have h10r := h10; try simp only [Bool.not_eq_true', Bool.not_eq_false', Bool.and_eq_true, Bool.or_eq_true, Bool.or_eq_false_iff, Bool.and_eq_false_iff, decide_eq_true_eq, decide_eq_false_iff_not, beq_iff_eq, beq_eq_false_iff_ne, ne_eq] at h10
      refine wp_skip ?_
      refine hK7 _ _ ?_; clear hK7
      refine wp_seq_k (fun K13 hK12 => ?_)
      refine wp_seq_k (fun K hK => ?_); refine wp_region_lit ?_
      refine o_fld HE rfl rfl T.f25_0 ?_; clear HE; intro a HE
      refine o_ld HE rfl HS rfl T.s3 (.here .here) rfl ?_; clear HE; intro a HE
      refine o_eqI HE rfl rfl rfl ?_; clear HE; intro a HE
      refine hK _ _ ?_; clear hK K
      refine cond HE rfl (fun h15 => ?_) (fun h15 => ?_)
      · have h15r := h15; try simp only [Bool.not_eq_true', Bool.not_eq_false', Bool.and_eq_true, Bool.or_eq_true, Bool.or_eq_false_iff, Bool.and_eq_false_iff, decide_eq_true_eq, decide_eq_false_iff_not, beq_iff_eq, beq_eq_false_iff_ne, ne_eq] at h15
        refine wp_seq_k (fun K hK => ?_); refine wp_region_lit ?_
        refine o_fld HE rfl rfl T.f25_2 ?_; clear HE; intro a HE
        refine o_ld HE rfl HS rfl T.s9 (.here .here) rfl ?_; clear HE; intro a HE
        refine o_assign HE rfl rfl ?_; clear HE; intro a HE
        refine hK _ _ ?_; clear hK K
        refine wp_ret ?_
        show Q .ret _ _
        refine ret hQ HE rfl (HE.res rfl .nil) ⟨_, _, HS.stop (List.nil_sublist _), rfl, ?_⟩
        show _ = _
        unfold printV
        rw [if_neg (by rw [h5]; decide)]
        repeat (first | rw [if_pos (by omega)] | rw [if_neg (by omega)])
        first | done | rfl
      · have h15r := h15; try simp only [Bool.not_eq_true', Bool.not_eq_false', Bool.and_eq_true, Bool.or_eq_true, Bool.or_eq_false_iff, Bool.and_eq_false_iff, decide_eq_true_eq, decide_eq_false_iff_not, beq_iff_eq, beq_eq_false_iff_ne, ne_eq] at h15
        refine wp_skip ?_
        refine hK12 _ _ ?_; clear hK12
        refine wp_seq_k (fun K18 hK17 => ?_)
        refine wp_seq_k (fun K hK => ?_); refine wp_region_lit ?_
        refine o_fld HE rfl rfl T.f25_0 ?_; clear HE; intro a HE
        refine o_ld HE rfl HS rfl T.s3 (.here .here) rfl ?_; clear HE; intro a HE
        refine o_eqI HE rfl rfl rfl ?_; clear HE; intro a HE
        refine o_move HE rfl rfl ?_; clear HE; intro a HE
        refine cutL 4 (fun a' w' => w = w' ∧ Env a' 28 [] [(24, .bool ((decide (x.k = 3)) && (decide (x.n = 1)))), (0, .agg #[.int .i64 x.k, .int .i64 x.n, str x.s]), (1, .pointer (some ⟨B1, 0, none⟩)), (2, str []), (3, .agg #[.int .i64 x.k, .int .i64 x.n, str x.s]), (4, .bool (rightV x)), (5, .bool (!(rightV x))), (6, .pointer (some ⟨B1, 0, none⟩)), (7, .int .i64 x.k), (8, .bool (decide (x.k = 1))), (12, .pointer (some ⟨B1, 0, none⟩)), (13, .int .i64 x.k), (14, .bool (decide (x.k = 2)))]) ?_ ?_
        · refine (Bool.eq_false_or_eq_true (decide (x.k = 3))).elim (fun hb19 => ?_) (fun hb19 => ?_)
          · skip
            have hk20 := hb19; try simp only [Bool.not_eq_true', Bool.not_eq_false', Bool.and_eq_true, Bool.or_eq_true, Bool.or_eq_false_iff, decide_eq_true_eq, decide_eq_false_iff_not, beq_iff_eq, beq_eq_false_iff_ne, ne_eq] at hk20
            refine op_on HE rfl rfl hb19 ?_
            refine o_fld HE rfl rfl T.f25_1 ?_; clear HE; intro a HE
            refine op_on HE rfl rfl hb19 ?_
            refine o_ld HE rfl HS rfl T.s2 (.here .here) rfl ?_; clear HE; intro a HE
            refine op_on HE rfl rfl hb19 ?_
            refine o_eqI HE rfl rfl rfl ?_; clear HE; intro a HE
            refine o_pick_t HE rfl rfl hb19 rfl ?_; clear HE; intro a HE
            exact ⟨rfl, HE.cut ⟨by rw [hb19]; rfl, rfl, rfl, rfl, rfl, rfl, rfl, rfl, rfl, rfl, rfl, rfl, rfl, trivial⟩⟩
          · skip
            have hk21 := hb19; try simp only [Bool.not_eq_true', Bool.not_eq_false', Bool.and_eq_true, Bool.or_eq_true, Bool.or_eq_false_iff, decide_eq_true_eq, decide_eq_false_iff_not, beq_iff_eq, beq_eq_false_iff_ne, ne_eq] at hk21
            refine g_off HE rfl rfl rfl hb19 ?_; clear HE; intro a HE
            refine g_off HE rfl rfl rfl hb19 ?_; clear HE; intro a HE
            refine g_off HE rfl rfl rfl hb19 ?_; clear HE; intro a HE
            refine o_pick_f HE rfl rfl hb19 rfl ?_; clear HE; intro a HE
            exact ⟨rfl, HE.cut ⟨by rw [hb19]; rfl, rfl, rfl, rfl, rfl, rfl, rfl, rfl, rfl, rfl, rfl, rfl, rfl, trivial⟩⟩
        clear HE; rintro a _ ⟨rfl, HE⟩
        refine hK _ _ ?_; clear hK K
        refine cond HE rfl (fun h23 => ?_) (fun h23 => ?_)
        · have h23r := h23; try simp only [Bool.not_eq_true', Bool.not_eq_false', Bool.and_eq_true, Bool.or_eq_true, Bool.or_eq_false_iff, Bool.and_eq_false_iff, decide_eq_true_eq, decide_eq_false_iff_not, beq_iff_eq, beq_eq_false_iff_ne, ne_eq] at h23
          refine wp_seq_k (fun K hK => ?_); refine wp_region_lit ?_
          refine o_assign HE rfl rfl ?_; clear HE; intro a HE
          refine hK _ _ ?_; clear hK K
          refine wp_ret ?_
          show Q .ret _ _
          refine ret hQ HE rfl (HE.res rfl .nil) ⟨_, _, HS.stop (List.nil_sublist _), rfl, ?_⟩
          show _ = _
          unfold printV
          rw [if_neg (by rw [h5]; decide)]
          repeat (first | rw [if_pos (by omega)] | rw [if_neg (by omega)])
          first | done | rfl
        · have h23r := h23; try simp only [Bool.not_eq_true', Bool.not_eq_false', Bool.and_eq_true, Bool.or_eq_true, Bool.or_eq_false_iff, Bool.and_eq_false_iff, decide_eq_true_eq, decide_eq_false_iff_not, beq_iff_eq, beq_eq_false_iff_ne, ne_eq] at h23
          refine wp_skip ?_
          refine hK17 _ _ ?_; clear hK17
          refine wp_seq_k (fun K26 hK25 => ?_)
          refine wp_seq_k (fun K hK => ?_); refine wp_region_lit ?_
          refine o_fld HE rfl rfl T.f25_0 ?_; clear HE; intro a HE
          refine o_ld HE rfl HS rfl T.s3 (.here .here) rfl ?_; clear HE; intro a HE
          refine o_eqI HE rfl rfl rfl ?_; clear HE; intro a HE
          refine hK _ _ ?_; clear hK K
          refine cond HE rfl (fun h28 => ?_) (fun h28 => ?_)
          · have h28r := h28; try simp only [Bool.not_eq_true', Bool.not_eq_false', Bool.and_eq_true, Bool.or_eq_true, Bool.or_eq_false_iff, Bool.and_eq_false_iff, decide_eq_true_eq, decide_eq_false_iff_not, beq_iff_eq, beq_eq_false_iff_ne, ne_eq] at h28
            refine wp_seq_k (fun K hK => ?_); refine wp_region_lit ?_
            refine o_assign HE rfl rfl ?_; clear HE; intro a HE
            refine hK _ _ ?_; clear hK K
            refine wp_ret ?_
            show Q .ret _ _
            refine ret hQ HE rfl (HE.res rfl .nil) ⟨_, _, HS.stop (List.nil_sublist _), rfl, ?_⟩
            show _ = _
            unfold printV
            rw [if_neg (by rw [h5]; decide)]
            repeat (first | rw [if_pos (by omega)] | rw [if_neg (by omega)])
            first | done | rfl
          · have h28r := h28; try simp only [Bool.not_eq_true', Bool.not_eq_false', Bool.and_eq_true, Bool.or_eq_true, Bool.or_eq_false_iff, Bool.and_eq_false_iff, decide_eq_true_eq, decide_eq_false_iff_not, beq_iff_eq, beq_eq_false_iff_ne, ne_eq] at h28
            refine wp_skip ?_
            refine hK25 _ _ ?_; clear hK25
            refine wp_seq_k (fun K hK => ?_); refine wp_region_lit ?_
            refine o_assign HE rfl rfl ?_; clear HE; intro a HE
            refine hK _ _ ?_; clear hK K
            refine wp_ret ?_
            show Q .ret _ _
            refine ret hQ HE rfl (HE.res rfl .nil) ⟨_, _, HS.stop (List.nil_sublist _), rfl, ?_⟩
            have hk0 := right0 h5 h10 h15 h28
            show _ = _
            unfold printV
            rw [if_neg (by rw [h5]; decide)]
            repeat (first | rw [if_pos (by omega)] | rw [if_neg (by omega)])
            first | done | rfl

/-! `incognito/incognitoref07.Parse` -/
set_option maxRecDepth 100000 in
set_option maxHeartbeats 4000000 in
theorem c_ParseV (s : Bs) (w0 : World) (G : Heap) (hG : Sub G w0) (hl : s.length ≤ 9223372036854775807):
    Calls Tryd.prog 21 #[str s] w0 (Ret w0 G (fun v _ => v = .tuple #[.agg (valCells (parseV s).1).toArray, .int .i64 (parseV s).2])) := by
  refine enter Tryd.func21 rfl Tryd.ntmps21 rfl ?_
  intro Q hQ a HE
  have HS := St.start0 hG
  refine wp_seq_k (fun K hK => ?_); refine wp_region_lit ?_
  refine o_allocL [(0, _), (1, _), (2, _)] HE rfl HS T.z25 ⟨rfl, rfl, rfl, trivial⟩ ?_; clear HE HS; intro B2 w a HS HE
  refine o_assign HE rfl rfl ?_; clear HE; intro a HE
  refine hK _ _ ?_; clear hK K
  refine wp_seq_k (fun K hK => ?_); refine wp_region_lit ?_
  refine o_build (cs := #[.int .i64 0, .int .i64 0, str []]) HE rfl rfl (by kernel_rfl) ?_; clear HE; intro a HE
  refine o_allocL [(0, _), (1, _), (2, _)] HE rfl HS T.z25 ⟨rfl, rfl, rfl, trivial⟩ ?_; clear HE HS; intro B4 w a HS HE
  refine o_stA HE HS rfl rfl rfl T.a25 (.here .here) rfl ?_; clear HS; intro w HS
  refine hK _ _ ?_; clear hK K
  refine wp_seq_k (fun K4 hK3 => ?_)
  refine wp_seq_k (fun K hK => ?_); refine wp_region_lit ?_
  refine o_move HE rfl rfl ?_; clear HE; intro a HE
  refine o_eqS HE rfl rfl rfl ?_; clear HE; intro a HE
  refine hK _ _ ?_; clear hK K
  refine cond HE rfl (fun h6 => ?_) (fun h6 => ?_)
  · have h6r := h6; try simp only [Bool.not_eq_true', Bool.not_eq_false', Bool.and_eq_true, Bool.or_eq_true, Bool.or_eq_false_iff, Bool.and_eq_false_iff, decide_eq_true_eq, decide_eq_false_iff_not, beq_iff_eq, beq_eq_false_iff_ne, ne_eq] at h6
    refine wp_seq_k (fun K hK => ?_); refine wp_region_lit ?_
    refine o_ldA HE rfl HS rfl T.a25 (.here .here) rfl ?_; clear HE; intro a HE
    refine o_stA HE HS rfl rfl rfl T.a25 (.there (.here .here)) rfl ?_; clear HS; intro w HS
    refine o_assign HE rfl rfl ?_; clear HE; intro a HE
    refine hK _ _ ?_; clear hK K
    refine wp_ret ?_
    show Q .ret _ _
    refine ret hQ HE rfl (HE.resA HS rfl T.a25 (.there (.here .here)) rfl (HE.res rfl .nil)) ⟨_, _, HS.stop (List.nil_sublist _), rfl, ?_⟩
    have hp : parseV s = (⟨0, 0, []⟩, 0) := by
      unfold parseV
      rw [if_pos h6]
    show _ = _
    rw [hp]
    rfl
  · have h6r := h6; try simp only [Bool.not_eq_true', Bool.not_eq_false', Bool.and_eq_true, Bool.or_eq_true, Bool.or_eq_false_iff, Bool.and_eq_false_iff, decide_eq_true_eq, decide_eq_false_iff_not, beq_iff_eq, beq_eq_false_iff_ne, ne_eq] at h6
    refine wp_skip ?_
    refine hK3 _ _ ?_; clear hK3
    refine wp_seq_k (fun K9 hK8 => ?_)
    refine wp_seq_k (fun K hK => ?_); refine wp_region_lit ?_
    refine o_move HE rfl rfl ?_; clear HE; intro a HE
    refine o_eqS HE rfl rfl rfl ?_; clear HE; intro a HE
    refine o_move HE rfl rfl ?_; clear HE; intro a HE
    refine cutL 3 (fun a' w' => w = w' ∧ Env a' 38 [] [(17, .bool ((s == [84]) || (s == [70]))), (0, str s), (2, .pointer (some ⟨B2, 0, none⟩)), (3, .int .i64 0), (4, .pointer (some ⟨B4, 0, none⟩)), (8, .agg #[.int .i64 0, .int .i64 0, str []]), (9, str s), (10, .bool (s == [126]))]) ?_ ?_
    · refine (Bool.eq_false_or_eq_true (s == [84])).elim (fun hb10 => ?_) (fun hb10 => ?_)
      · skip
        have hk11 := hb10; try simp only [Bool.not_eq_true', Bool.not_eq_false', Bool.and_eq_true, Bool.or_eq_true, Bool.or_eq_false_iff, decide_eq_true_eq, decide_eq_false_iff_not, beq_iff_eq, beq_eq_false_iff_ne, ne_eq] at hk11
        refine g_off HE rfl rfl rfl hb10 ?_; clear HE; intro a HE
        refine g_off HE rfl rfl rfl hb10 ?_; clear HE; intro a HE
        refine o_pick_t HE rfl rfl hb10 rfl ?_; clear HE; intro a HE
        exact ⟨rfl, HE.cut ⟨by rw [hb10]; rfl, rfl, rfl, rfl, rfl, rfl, rfl, rfl, trivial⟩⟩
      · skip
        have hk12 := hb10; try simp only [Bool.not_eq_true', Bool.not_eq_false', Bool.and_eq_true, Bool.or_eq_true, Bool.or_eq_false_iff, decide_eq_true_eq, decide_eq_false_iff_not, beq_iff_eq, beq_eq_false_iff_ne, ne_eq] at hk12
        refine op_on HE rfl rfl hb10 ?_
        refine o_move HE rfl rfl ?_; clear HE; intro a HE
        refine op_on HE rfl rfl hb10 ?_
        refine o_eqS HE rfl rfl rfl ?_; clear HE; intro a HE
        refine o_pick_f HE rfl rfl hb10 rfl ?_; clear HE; intro a HE
        exact ⟨rfl, HE.cut ⟨by rw [hb10]; rfl, rfl, rfl, rfl, rfl, rfl, rfl, rfl, trivial⟩⟩
    clear HE; rintro a _ ⟨rfl, HE⟩
    refine hK _ _ ?_; clear hK K
    refine cond HE rfl (fun h14 => ?_) (fun h14 => ?_)
    · have h14r := h14; try simp only [Bool.not_eq_true', Bool.not_eq_false', Bool.and_eq_true, Bool.or_eq_true, Bool.or_eq_false_iff, Bool.and_eq_false_iff, decide_eq_true_eq, decide_eq_false_iff_not, beq_iff_eq, beq_eq_false_iff_ne, ne_eq] at h14
      refine wp_seq_k (fun K hK => ?_); refine wp_region_lit ?_
      refine o_build (cs := #[.int .i64 3, .int .i64 0, str []]) HE rfl rfl (by kernel_rfl) ?_; clear HE; intro a HE
      refine o_allocL [(0, _), (1, _), (2, _)] HE rfl HS T.z25 ⟨rfl, rfl, rfl, trivial⟩ ?_; clear HE HS; intro B5 w a HS HE
      refine o_stA HE HS rfl rfl rfl T.a25 (.here .here) rfl ?_; clear HS; intro w HS
      refine hK _ _ ?_; clear hK K
      refine cutC (fun a' w' => St w0 G [] G w' [[(B5, Cells 25 [(0, .int .i64 3), (1, .int .i64 (bif s == [84] then 1 else 0)), (2, str [])])], [(B4, Cells 25 [(0, .int .i64 0), (1, .int .i64 0), (2, str [])])], [(B2, Cells 25 [(0, .int .i64 0), (1, .int .i64 0), (2, str [])])]] ∧ Env a' 38 [] [(0, str s), (2, .pointer (some ⟨B2, 0, none⟩)), (3, .int .i64 0), (4, .pointer (some ⟨B4, 0, none⟩)), (5, .pointer (some ⟨B5, 0, none⟩)), (8, .agg #[.int .i64 0, .int .i64 0, str []]), (9, str s), (10, .bool (s == [126])), (17, .bool ((s == [84]) || (s == [70]))), (18, .agg #[.int .i64 3, .int .i64 0, str []])]) ?_ ?_
      · skip
        refine wp_seq_k (fun K hK => ?_); refine wp_region_lit ?_
        refine o_move HE rfl rfl ?_; clear HE; intro a HE
        refine o_eqS HE rfl rfl rfl ?_; clear HE; intro a HE
        refine hK _ _ ?_; clear hK K
        refine cond HE rfl (fun h17 => ?_) (fun h17 => ?_)
        · have h17r := h17; try simp only [Bool.not_eq_true', Bool.not_eq_false', Bool.and_eq_true, Bool.or_eq_true, Bool.or_eq_false_iff, Bool.and_eq_false_iff, decide_eq_true_eq, decide_eq_false_iff_not, beq_iff_eq, beq_eq_false_iff_ne, ne_eq] at h17
          refine wp_region_lit ?_
          refine o_fld HE rfl rfl T.f25_1 ?_; clear HE; intro a HE
          refine o_st HE HS rfl rfl rfl T.s2 (.here .here) rfl ?_; clear HS; intro w HS
          replace HS := HS.conv (L2 := [(0, .int .i64 3), (1, .int .i64 (bif s == [84] then 1 else 0)), (2, str [])]) (.here .here) ⟨rfl, (by first | rfl | (rw [h17r]; rfl) | (simp [h17r, lk]; done)), rfl, trivial⟩
          replace HS := HS.conv (L2 := [(0, .int .i64 0), (1, .int .i64 0), (2, str [])]) (.there (.here .here)) ⟨rfl, rfl, rfl, trivial⟩
          exact ⟨HS, HE.cut ⟨rfl, rfl, rfl, rfl, rfl, rfl, rfl, rfl, rfl, rfl, trivial⟩⟩
        · have h17r := h17; try simp only [Bool.not_eq_true', Bool.not_eq_false', Bool.and_eq_true, Bool.or_eq_true, Bool.or_eq_false_iff, Bool.and_eq_false_iff, decide_eq_true_eq, decide_eq_false_iff_not, beq_iff_eq, beq_eq_false_iff_ne, ne_eq] at h17
          refine wp_skip ?_
          replace HS := HS.conv (L2 := [(0, .int .i64 3), (1, .int .i64 (bif s == [84] then 1 else 0)), (2, str [])]) (.here .here) ⟨rfl, (by first | rfl | (rw [h17r]; rfl) | (simp [h17r, lk]; done)), rfl, trivial⟩
          replace HS := HS.conv (L2 := [(0, .int .i64 0), (1, .int .i64 0), (2, str [])]) (.there (.here .here)) ⟨rfl, rfl, rfl, trivial⟩
          exact ⟨HS, HE.cut ⟨rfl, rfl, rfl, rfl, rfl, rfl, rfl, rfl, rfl, rfl, trivial⟩⟩
      clear HE HS; rintro a w ⟨HS, HE⟩
      refine wp_seq_k (fun K hK => ?_); refine wp_region_lit ?_
      refine o_ldA HE rfl HS rfl T.a25 (.here .here) rfl ?_; clear HE; intro a HE
      refine o_stA HE HS rfl rfl rfl T.a25 (.there (.there (.here .here))) rfl ?_; clear HS; intro w HS
      refine o_assign HE rfl rfl ?_; clear HE; intro a HE
      refine hK _ _ ?_; clear hK K
      refine wp_ret ?_
      show Q .ret _ _
      refine ret hQ HE rfl (HE.resA HS rfl T.a25 (.there (.there (.here .here))) rfl (HE.res rfl .nil)) ⟨_, _, HS.stop (List.nil_sublist _), rfl, ?_⟩
      have hp : parseV s = (⟨3, bif s == [84] then 1 else 0, []⟩, 0) := by
        unfold parseV
        rw [if_neg h6]
        rcases h14 with h | h
        · subst h; rfl
        · subst h; rfl
      show _ = _
      rw [hp]
      rfl
    · have h14r := h14; try simp only [Bool.not_eq_true', Bool.not_eq_false', Bool.and_eq_true, Bool.or_eq_true, Bool.or_eq_false_iff, Bool.and_eq_false_iff, decide_eq_true_eq, decide_eq_false_iff_not, beq_iff_eq, beq_eq_false_iff_ne, ne_eq] at h14
      refine wp_skip ?_
      refine hK8 _ _ ?_; clear hK8
      refine wp_seq_k (fun K20 hK19 => ?_)
      refine wp_seq_k (fun K hK => ?_); refine wp_region_lit ?_
      refine o_move HE rfl rfl ?_; clear HE; intro a HE
      refine o_callP HE rfl HS rfl rfl T.g12 (c_IsWord s _ _ HS.sub (by first | omega | exact hv.s | (simp; done) | (simp; omega))) ?_
      clear HE HS; rintro _ w a HS rfl HE
      refine hK _ _ ?_; clear hK K
      refine cond HE rfl (fun h22 => ?_) (fun h22 => ?_)
      · have h22r := h22; try simp only [Bool.not_eq_true', Bool.not_eq_false', Bool.and_eq_true, Bool.or_eq_true, Bool.or_eq_false_iff, Bool.and_eq_false_iff, decide_eq_true_eq, decide_eq_false_iff_not, beq_iff_eq, beq_eq_false_iff_ne, ne_eq] at h22
        refine wp_seq_k (fun K hK => ?_); refine wp_region_lit ?_
        refine o_move HE rfl rfl ?_; clear HE; intro a HE
        refine o_build (cs := #[.int .i64 2, .int .i64 0, str s]) HE rfl rfl (by kernel_rfl) ?_; clear HE; intro a HE
        refine o_stA HE HS rfl rfl rfl T.a25 (.there (.here .here)) rfl ?_; clear HS; intro w HS
        refine o_assign HE rfl rfl ?_; clear HE; intro a HE
        refine hK _ _ ?_; clear hK K
        refine wp_ret ?_
        show Q .ret _ _
        refine ret hQ HE rfl (HE.resA HS rfl T.a25 (.there (.here .here)) rfl (HE.res rfl .nil)) ⟨_, _, HS.stop (List.nil_sublist _), rfl, ?_⟩
        have hp : parseV s = (⟨2, 0, s⟩, 0) := by
          unfold parseV
          rw [if_neg h6]
          rw [if_neg h14.1, if_neg h14.2]
          rw [if_pos h22]
        show _ = _
        rw [hp]
        rfl
      · have h22r := h22; try simp only [Bool.not_eq_true', Bool.not_eq_false', Bool.and_eq_true, Bool.or_eq_true, Bool.or_eq_false_iff, Bool.and_eq_false_iff, decide_eq_true_eq, decide_eq_false_iff_not, beq_iff_eq, beq_eq_false_iff_ne, ne_eq] at h22
        refine wp_skip ?_
        refine hK19 _ _ ?_; clear hK19
        refine wp_seq_k (fun K hK => ?_); refine wp_region_lit ?_
        refine o_move HE rfl rfl ?_; clear HE; intro a HE
        refine o_callP HE rfl HS rfl rfl T.g39 (c_Parse s _ _ HS.sub (by first | omega | (simp; done) | (simp; omega))) ?_
        clear HE HS; rintro _ w a HS rfl HE
        refine o_move HE rfl rfl ?_; clear HE; intro a HE
        refine o_extract HE rfl rfl rfl ?_; clear HE; intro a HE
        refine o_extract HE rfl rfl rfl ?_; clear HE; intro a HE
        refine o_assign HE rfl rfl ?_; clear HE; intro a HE
        refine o_assign HE rfl rfl ?_; clear HE; intro a HE
        refine hK _ _ ?_; clear hK K
        refine wp_seq_k (fun K26 hK25 => ?_)
        refine wp_seq_k (fun K hK => ?_); refine wp_region_lit ?_
        refine o_move HE rfl rfl ?_; clear HE; intro a HE
        refine o_neI HE rfl rfl rfl ?_; clear HE; intro a HE
        refine hK _ _ ?_; clear hK K
        refine cond HE rfl (fun h28 => ?_) (fun h28 => ?_)
        · have h28r := h28; try simp only [Bool.not_eq_true', Bool.not_eq_false', Bool.and_eq_true, Bool.or_eq_true, Bool.or_eq_false_iff, Bool.and_eq_false_iff, decide_eq_true_eq, decide_eq_false_iff_not, beq_iff_eq, beq_eq_false_iff_ne, ne_eq] at h28
          refine wp_seq_k (fun K hK => ?_); refine wp_region_lit ?_
          refine o_ldA HE rfl HS rfl T.a25 (.here .here) rfl ?_; clear HE; intro a HE
          refine o_move HE rfl rfl ?_; clear HE; intro a HE
          refine o_stA HE HS rfl rfl rfl T.a25 (.there (.here .here)) rfl ?_; clear HS; intro w HS
          refine o_assign HE rfl rfl ?_; clear HE; intro a HE
          refine hK _ _ ?_; clear hK K
          refine wp_ret ?_
          show Q .ret _ _
          refine ret hQ HE rfl (HE.resA HS rfl T.a25 (.there (.here .here)) rfl (HE.res rfl .nil)) ⟨_, _, HS.stop (List.nil_sublist _), rfl, ?_⟩
          have hp : parseV s = (⟨0, 0, []⟩, erv (parseS s)) := by
            unfold parseV
            rw [if_neg h6]
            rw [if_neg h14.1, if_neg h14.2]
            rw [if_neg (by rw [h22]; decide)]
            rw [if_pos h28]
          show _ = _
          rw [hp]
          rfl
        · have h28r := h28; try simp only [Bool.not_eq_true', Bool.not_eq_false', Bool.and_eq_true, Bool.or_eq_true, Bool.or_eq_false_iff, Bool.and_eq_false_iff, decide_eq_true_eq, decide_eq_false_iff_not, beq_iff_eq, beq_eq_false_iff_ne, ne_eq] at h28
          refine wp_skip ?_
          refine hK25 _ _ ?_; clear hK25
          refine wp_seq_k (fun K hK => ?_); refine wp_region_lit ?_
          refine o_move HE rfl rfl ?_; clear HE; intro a HE
          refine o_build (cs := #[.int .i64 1, .int .i64 (okv (parseS s)), str []]) HE rfl rfl (by kernel_rfl) ?_; clear HE; intro a HE
          refine o_stA HE HS rfl rfl rfl T.a25 (.there (.here .here)) rfl ?_; clear HS; intro w HS
          refine o_assign HE rfl rfl ?_; clear HE; intro a HE
          refine hK _ _ ?_; clear hK K
          refine wp_ret ?_
          show Q .ret _ _
          refine ret hQ HE rfl (HE.resA HS rfl T.a25 (.there (.here .here)) rfl (HE.res rfl .nil)) ⟨_, _, HS.stop (List.nil_sublist _), rfl, ?_⟩
          have hp : parseV s = (⟨1, okv (parseS s), []⟩, 0) := by
            unfold parseV
            rw [if_neg h6]
            rw [if_neg h14.1, if_neg h14.2]
            rw [if_neg (by rw [h22]; decide)]
            rw [if_neg (by simp [h28])]
          show _ = _
          rw [hp]
          rfl

/-! `incognito/incognitolaw07.ValuePrints` -/
set_option maxRecDepth 100000 in
set_option maxHeartbeats 4000000 in
theorem law_ValuePrints (x : Val) (w0 : World) (G : Heap) (hG : Sub G w0) (hg0 : CellsAt G 0 0 [.int .i64 3, .int .i64 1, str []]) (hg1 : CellsAt G 1 0 [.int .i64 3, .int .i64 0, str []]) (hT : TabG G 3 .u64 Lib.pow10Tab) (hv : x.Wf):
    Calls Tryd.prog 5 #[.agg #[.int .i64 x.k, .int .i64 x.n, str x.s]] w0 (Ret w0 G (fun v _ => v = .bool true)) := by
  refine enter Tryd.func5 rfl Tryd.ntmps5 rfl ?_
  intro Q hQ a HE
  have HS := St.start0 hG
  refine wp_seq_k (fun K hK => ?_); refine wp_region_lit ?_
  refine o_boxL [(0, _), (1, _), (2, _)] HE rfl HS rfl ⟨rfl, rfl, rfl, trivial⟩ ?_; clear HE HS; intro B1 w a HS HE
  refine o_assign HE rfl rfl ?_; clear HE; intro a HE
  refine hK _ _ ?_; clear hK K
  refine wp_seq_k (fun K3 hK2 => ?_)
  refine wp_seq_k (fun K hK => ?_); refine wp_region_lit ?_
  refine o_callP HE rfl HS rfl rfl T.g10 (c_wakes7 _ _ HS.sub hg0 hg1) ?_
  clear HE HS; rintro _ w a HS rfl HE
  refine o_not HE rfl rfl ?_; clear HE; intro a HE
  refine hK _ _ ?_; clear hK K
  refine cond HE rfl (fun h5 => ?_) (fun h5 => ?_)
  · have h5r := h5; try simp only [Bool.not_eq_true', Bool.not_eq_false', Bool.and_eq_true, Bool.or_eq_true, Bool.or_eq_false_iff, Bool.and_eq_false_iff, decide_eq_true_eq, decide_eq_false_iff_not, beq_iff_eq, beq_eq_false_iff_ne, ne_eq] at h5
    refine wp_seq_k (fun K hK => ?_); refine wp_region_lit ?_
    refine o_assign HE rfl rfl ?_; clear HE; intro a HE
    refine hK _ _ ?_; clear hK K
    refine wp_ret ?_
    show Q .ret _ _
    refine ret hQ HE rfl (HE.res rfl .nil) ⟨_, _, HS.stop (List.nil_sublist _), rfl, ?_⟩
    exact absurd h5r (by decide)
  · have h5r := h5; try simp only [Bool.not_eq_true', Bool.not_eq_false', Bool.and_eq_true, Bool.or_eq_true, Bool.or_eq_false_iff, Bool.and_eq_false_iff, decide_eq_true_eq, decide_eq_false_iff_not, beq_iff_eq, beq_eq_false_iff_ne, ne_eq] at h5
    refine wp_skip ?_
    refine hK2 _ _ ?_; clear hK2
    refine wp_seq_k (fun K8 hK7 => ?_)
    refine wp_seq_k (fun K hK => ?_); refine wp_region_lit ?_
    refine o_ldA HE rfl HS rfl T.a25 (.here .here) rfl ?_; clear HE; intro a HE
    refine o_buildSl (cs := #[.int .i64 x.k, .int .i64 x.n, str x.s]) [(0, _), (1, _), (2, _)] HE rfl HS rfl T.l46 (by kernel_rfl) ⟨rfl, rfl, rfl, trivial⟩ ?_; clear HE HS; intro B9 w a HS HE
    obtain ⟨G9, hle11, hC10, HS'⟩ := HS.stillHead (n := 3) rfl; clear HS; have HS := HS'; clear HS'
    replace hg0 := hg0.le hle11
    replace hg1 := hg1.le hle11
    replace hT := hT.le hle11
    have hW12 := Rd.ofCells (K := kVal) (xs := [x]) hC10 ⟨rfl, rfl⟩
    refine o_call HE rfl HS rfl rfl T.g13 (c_great [x] _ _ _ _ HS.sub hW12 (by simp)) ?_
    clear HE HS; rintro _ G15 w a HS hle14 ⟨gb13, rfl⟩ HE
    replace hg0 := hg0.le hle14
    replace hg1 := hg1.le hle14
    replace hT := hT.le hle14
    replace hC10 := hC10.le hle14
    replace hW12 := hW12.le hle14
    refine hK _ _ ?_; clear hK K
    refine cond HE rfl (fun h17 => ?_) (fun h17 => ?_)
    · have h17r := h17; try simp only [Bool.not_eq_true', Bool.not_eq_false', Bool.and_eq_true, Bool.or_eq_true, Bool.or_eq_false_iff, Bool.and_eq_false_iff, decide_eq_true_eq, decide_eq_false_iff_not, beq_iff_eq, beq_eq_false_iff_ne, ne_eq] at h17
      refine wp_seq_k (fun K hK => ?_); refine wp_region_lit ?_
      refine o_assign HE rfl rfl ?_; clear HE; intro a HE
      refine hK _ _ ?_; clear hK K
      refine wp_ret ?_
      show Q .ret _ _
      refine ret hQ HE rfl (HE.res rfl .nil) ⟨_, _, HS.stop (List.nil_sublist _), rfl, ?_⟩
      show _ = _
      rfl
    · have h17r := h17; try simp only [Bool.not_eq_true', Bool.not_eq_false', Bool.and_eq_true, Bool.or_eq_true, Bool.or_eq_false_iff, Bool.and_eq_false_iff, decide_eq_true_eq, decide_eq_false_iff_not, beq_iff_eq, beq_eq_false_iff_ne, ne_eq] at h17
      refine wp_skip ?_
      refine hK7 _ _ ?_; clear hK7
      refine wp_seq_k (fun K hK => ?_); refine wp_region_lit ?_
      refine o_ldA HE rfl HS rfl T.a25 (.here .here) rfl ?_; clear HE; intro a HE
      refine o_callP HE rfl HS rfl rfl T.g16 (c_print7 x _ _ HS.sub hg0 hg1 hT (by first | assumption | exact hv | (constructor <;> first | assumption | (simp only [I64]; omega) | (simp; omega)))) ?_
      clear HE HS; rintro _ w a HS rfl HE
      refine o_assign HE rfl rfl ?_; clear HE; intro a HE
      refine hK _ _ ?_; clear hK K
      refine wp_seq_k (fun K21 hK20 => ?_)
      refine wp_seq_k (fun K23 hK22 => ?_)
      replace HE := HE.cut (L' := [(0, .agg #[.int .i64 x.k, .int .i64 x.n, str x.s]), (1, .pointer (some ⟨B1, 0, none⟩)), (2, .bool false), (3, str (printV x)), (6, .bool true), (7, .bool (!true)), (8, .agg #[.int .i64 x.k, .int .i64 x.n, str x.s]), (9, .slice (some ⟨B9, 0, none⟩) 1 1), (10, .bool gb13), (11, .agg #[.int .i64 x.k, .int .i64 x.n, str x.s]), (12, str (printV x))]) ⟨rfl, rfl, rfl, rfl, rfl, rfl, rfl, rfl, rfl, rfl, rfl, trivial⟩
      refine drawnP [fun v => v = .agg #[.int .i64 x.k, .int .i64 x.n, str x.s], fun v => v = .bool (rightV x), fun v => v = .agg #[.int .i64 x.k, .int .i64 x.n, str x.s], fun v => v = .bool (rightV x), fun v => v = .bool (!((rightV x) == (rightV x))), fun v => v = .bool (!((rightV x) == (rightV x))), fun v => (!((rightV x) == (rightV x))) = false → v = str (printV x), fun v => (!((rightV x) == (rightV x))) = false → v = .agg #[.int .i64 x.k, .int .i64 x.n, str x.s], fun v => (!((rightV x) == (rightV x))) = false → v = str (printV x), fun v => (!((rightV x) == (rightV x))) = false → v = .bool (!((printV x) == (printV x))), fun v => v = .bool ((!((rightV x) == (rightV x))) || (!((printV x) == (printV x))))] T.mix rfl HE HS rfl ⟨?_, ?_, ?_, ?_, ?_, ?_, ?_, ?_, ?_, ?_, ?_, trivial⟩ ?_
      · intro a w G1 hl HS HE hp
        refine o_ldA HE rfl HS rfl T.a25 (.here .here) rfl ?_; clear HE; intro a HE
        exact ⟨_, _, HS, rfl, HE.get _ _ rfl, HE.defers, rfl⟩
      · intro a w G1 hl HS HE hp
        obtain ⟨_, e0, rfl⟩ := hp 0 13 _ rfl rfl rfl; replace HE := HE.add e0
        refine o_callP HE rfl HS rfl rfl T.g17 (c_right7 x _ _ HS.sub (hg0.le hl) (hg1.le hl) (by first | assumption | exact hv | (constructor <;> first | assumption | (simp only [I64]; omega) | (simp; omega)))) ?_
        clear HE HS; rintro _ w a HS rfl HE
        exact ⟨_, _, HS, rfl, HE.get _ _ rfl, HE.defers, rfl⟩
      · intro a w G1 hl HS HE hp
        refine o_ldA HE rfl HS rfl T.a25 (.here .here) rfl ?_; clear HE; intro a HE
        exact ⟨_, _, HS, rfl, HE.get _ _ rfl, HE.defers, rfl⟩
      · intro a w G1 hl HS HE hp
        obtain ⟨_, e2, rfl⟩ := hp 2 15 _ rfl rfl rfl; replace HE := HE.add e2
        refine o_callP HE rfl HS rfl rfl T.g18 (c_Right7 x _ _ HS.sub (by first | assumption | exact hv | (constructor <;> first | assumption | (simp only [I64]; omega) | (simp; omega)))) ?_
        clear HE HS; rintro _ w a HS rfl HE
        exact ⟨_, _, HS, rfl, HE.get _ _ rfl, HE.defers, rfl⟩
      · intro a w G1 hl HS HE hp
        obtain ⟨_, e1, rfl⟩ := hp 1 14 _ rfl rfl rfl; replace HE := HE.add e1
        obtain ⟨_, e3, rfl⟩ := hp 3 16 _ rfl rfl rfl; replace HE := HE.add e3
        refine o_neB HE rfl rfl rfl Tryd.underlying4 ?_; clear HE; intro a HE
        exact ⟨_, _, HS, rfl, HE.get _ _ rfl, HE.defers, rfl⟩
      · intro a w G1 hl HS HE hp
        obtain ⟨_, e4, rfl⟩ := hp 4 17 _ rfl rfl rfl; replace HE := HE.add e4
        refine o_move HE rfl rfl ?_; clear HE; intro a HE
        exact ⟨_, _, HS, rfl, HE.get _ _ rfl, HE.defers, rfl⟩
      · intro a w G1 hl HS HE hp
        obtain ⟨_, eg, rfl⟩ := hp 5 18 _ rfl rfl rfl; replace HE := HE.add eg
        refine (Bool.eq_false_or_eq_true (!((rightV x) == (rightV x)))).elim (fun hb => ?_) (fun hb => ?_)
        · skip
          refine g_off HE rfl rfl rfl hb ?_; clear HE; intro a HE
          exact ⟨_, _, HS, rfl, HE.get _ _ rfl, HE.defers, fun h => absurd (hb.symm.trans h) (by decide)⟩
        · skip
          refine op_on HE rfl rfl hb ?_
          refine o_move HE rfl rfl ?_; clear HE; intro a HE
          exact ⟨_, _, HS, rfl, HE.get _ _ rfl, HE.defers, fun _ => rfl⟩
      · intro a w G1 hl HS HE hp
        obtain ⟨_, eg, rfl⟩ := hp 5 18 _ rfl rfl rfl; replace HE := HE.add eg
        refine (Bool.eq_false_or_eq_true (!((rightV x) == (rightV x)))).elim (fun hb => ?_) (fun hb => ?_)
        · skip
          refine g_off HE rfl rfl rfl hb ?_; clear HE; intro a HE
          exact ⟨_, _, HS, rfl, HE.get _ _ rfl, HE.defers, fun h => absurd (hb.symm.trans h) (by decide)⟩
        · skip
          refine op_on HE rfl rfl hb ?_
          refine o_ldA HE rfl HS rfl T.a25 (.here .here) rfl ?_; clear HE; intro a HE
          exact ⟨_, _, HS, rfl, HE.get _ _ rfl, HE.defers, fun _ => rfl⟩
      · intro a w G1 hl HS HE hp
        obtain ⟨_, eg, rfl⟩ := hp 5 18 _ rfl rfl rfl; replace HE := HE.add eg
        refine (Bool.eq_false_or_eq_true (!((rightV x) == (rightV x)))).elim (fun hb => ?_) (fun hb => ?_)
        · skip
          refine g_off HE rfl rfl rfl hb ?_; clear HE; intro a HE
          exact ⟨_, _, HS, rfl, HE.get _ _ rfl, HE.defers, fun h => absurd (hb.symm.trans h) (by decide)⟩
        · skip
          obtain ⟨_, e7, h7v⟩ := hp 7 20 _ rfl rfl rfl; cases h7v hb; replace HE := HE.add e7
          refine op_on HE rfl rfl hb ?_
          refine o_callP HE rfl HS rfl rfl T.g19 (c_Print7 x _ _ HS.sub (by first | assumption | exact hv | (constructor <;> first | assumption | (simp only [I64]; omega) | (simp; omega)))) ?_
          clear HE HS; rintro _ w a HS rfl HE
          exact ⟨_, _, HS, rfl, HE.get _ _ rfl, HE.defers, fun _ => rfl⟩
      · intro a w G1 hl HS HE hp
        obtain ⟨_, eg, rfl⟩ := hp 5 18 _ rfl rfl rfl; replace HE := HE.add eg
        refine (Bool.eq_false_or_eq_true (!((rightV x) == (rightV x)))).elim (fun hb => ?_) (fun hb => ?_)
        · skip
          refine g_off HE rfl rfl rfl hb ?_; clear HE; intro a HE
          exact ⟨_, _, HS, rfl, HE.get _ _ rfl, HE.defers, fun h => absurd (hb.symm.trans h) (by decide)⟩
        · skip
          obtain ⟨_, e6, h6v⟩ := hp 6 19 _ rfl rfl rfl; cases h6v hb; replace HE := HE.add e6
          obtain ⟨_, e8, h8v⟩ := hp 8 21 _ rfl rfl rfl; cases h8v hb; replace HE := HE.add e8
          refine op_on HE rfl rfl hb ?_
          refine o_neS HE rfl rfl rfl ?_; clear HE; intro a HE
          exact ⟨_, _, HS, rfl, HE.get _ _ rfl, HE.defers, fun _ => rfl⟩
      · intro a w G1 hl HS HE hp
        obtain ⟨_, e5, rfl⟩ := hp 5 18 _ rfl rfl rfl; replace HE := HE.add e5
        refine (Bool.eq_false_or_eq_true (!((rightV x) == (rightV x)))).elim (fun hb => ?_) (fun hb => ?_)
        · skip
          refine o_pick_t HE rfl rfl hb rfl ?_; clear HE; intro a HE
          exact ⟨_, _, HS, rfl, HE.get _ _ rfl, HE.defers, by rw [hb]; rfl⟩
        · skip
          obtain ⟨_, e9, h9v⟩ := hp 9 22 _ rfl rfl rfl; cases h9v hb; replace HE := HE.add e9
          refine o_pick_f HE rfl rfl hb rfl ?_; clear HE; intro a HE
          exact ⟨_, _, HS, rfl, HE.get _ _ rfl, HE.defers, by rw [hb]; rfl⟩
      clear HE HS; intro a w HS HE hp
      obtain ⟨_, e10, rfl⟩ := hp 10 23 _ rfl rfl; replace HE := HE.add e10
      clear hp
      refine hK22 _ _ ?_; clear hK22
      refine cond HE rfl (fun h24 => ?_) (fun h24 => ?_)
      · have h24r := h24; try simp only [Bool.not_eq_true', Bool.not_eq_false', Bool.and_eq_true, Bool.or_eq_true, Bool.or_eq_false_iff, Bool.and_eq_false_iff, decide_eq_true_eq, decide_eq_false_iff_not, beq_iff_eq, beq_eq_false_iff_ne, ne_eq] at h24
        refine wp_seq_k (fun K hK => ?_); refine wp_region_lit ?_
        refine o_assign HE rfl rfl ?_; clear HE; intro a HE
        refine hK _ _ ?_; clear hK K
        refine wp_ret ?_
        show Q .ret _ _
        refine ret hQ HE rfl (HE.res rfl .nil) ⟨_, _, HS.stop (List.nil_sublist _), rfl, ?_⟩
        exact absurd h24r (by simp)
      · have h24r := h24; try simp only [Bool.not_eq_true', Bool.not_eq_false', Bool.and_eq_true, Bool.or_eq_true, Bool.or_eq_false_iff, Bool.and_eq_false_iff, decide_eq_true_eq, decide_eq_false_iff_not, beq_iff_eq, beq_eq_false_iff_ne, ne_eq] at h24
        refine wp_skip ?_
        refine hK20 _ _ ?_; clear hK20
        refine wp_seq_k (fun K hK => ?_); refine wp_region_lit ?_
        have hlp : (printV x).length ≤ 9223372036854775807 := print_len hv
        refine o_move HE rfl rfl ?_; clear HE; intro a HE
        refine o_callP HE rfl HS rfl rfl T.g20 (c_parseV (printV x) _ _ HS.sub hg0 hg1 (by first | omega | (simp; done) | (simp; omega))) ?_
        clear HE HS; rintro _ w a HS rfl HE
        refine o_move HE rfl rfl ?_; clear HE; intro a HE
        refine o_extract HE rfl rfl rfl ?_; clear HE; intro a HE
        refine o_extract HE rfl rfl rfl ?_; clear HE; intro a HE
        refine o_allocL [(0, _), (1, _), (2, _)] HE rfl HS T.z25 ⟨rfl, rfl, rfl, trivial⟩ ?_; clear HE HS; intro B4 w a HS HE
        refine o_stA HE HS rfl rfl rfl T.a25 (.here .here) rfl ?_; clear HS; intro w HS
        refine o_assign HE rfl rfl ?_; clear HE; intro a HE
        refine hK _ _ ?_; clear hK K
        refine wp_seq_k (fun K hK => ?_); refine wp_region_lit ?_
        refine o_ldA HE rfl HS rfl T.a25 (.there (.here .here)) rfl ?_; clear HE; intro a HE
        refine o_callP HE rfl HS rfl rfl T.g18 (c_Right7 x _ _ HS.sub (by first | assumption | exact hv | (constructor <;> first | assumption | (simp only [I64]; omega) | (simp; omega)))) ?_
        clear HE HS; rintro _ w a HS rfl HE
        refine o_not HE rfl rfl ?_; clear HE; intro a HE
        refine o_move HE rfl rfl ?_; clear HE; intro a HE
        refine cutL 8 (fun a' w' => w = w' ∧ Env a' 41 [] [(40, .bool ((!(rightV x)) || ((decide (((parseV (printV x)).2) = 0)) && (decide (((parseV (printV x)).1.k) = x.k) && (decide (((parseV (printV x)).1.n) = x.n) && (((parseV (printV x)).1.s) == x.s && true)))))), (0, .agg #[.int .i64 x.k, .int .i64 x.n, str x.s]), (1, .pointer (some ⟨B1, 0, none⟩)), (2, .bool false), (3, str (printV x)), (4, .pointer (some ⟨B4, 0, none⟩)), (6, .bool true), (7, .bool (!true)), (8, .agg #[.int .i64 x.k, .int .i64 x.n, str x.s]), (9, .slice (some ⟨B9, 0, none⟩) 1 1), (10, .bool gb13), (11, .agg #[.int .i64 x.k, .int .i64 x.n, str x.s]), (12, str (printV x)), (23, .bool ((!((rightV x) == (rightV x))) || (!((printV x) == (printV x))))), (24, .tuple #[.agg #[.int .i64 ((parseV (printV x)).1.k), .int .i64 ((parseV (printV x)).1.n), str ((parseV (printV x)).1.s)], .int .i64 ((parseV (printV x)).2)]), (25, str (printV x)), (26, .tuple #[.agg #[.int .i64 ((parseV (printV x)).1.k), .int .i64 ((parseV (printV x)).1.n), str ((parseV (printV x)).1.s)], .int .i64 ((parseV (printV x)).2)]), (27, .agg #[.int .i64 ((parseV (printV x)).1.k), .int .i64 ((parseV (printV x)).1.n), str ((parseV (printV x)).1.s)]), (28, .int .i64 ((parseV (printV x)).2))]) ?_ ?_
        · refine (Bool.eq_false_or_eq_true (!(rightV x))).elim (fun hb27 => ?_) (fun hb27 => ?_)
          · skip
            have hk28 := hb27; try simp only [Bool.not_eq_true', Bool.not_eq_false', Bool.and_eq_true, Bool.or_eq_true, Bool.or_eq_false_iff, decide_eq_true_eq, decide_eq_false_iff_not, beq_iff_eq, beq_eq_false_iff_ne, ne_eq] at hk28
            refine g_off HE rfl rfl rfl hb27 ?_; clear HE; intro a HE
            refine g_off HE rfl rfl rfl hb27 ?_; clear HE; intro a HE
            refine g_off HE rfl rfl rfl hb27 ?_; clear HE; intro a HE
            refine g_offu HE rfl rfl rfl ?_; clear HE; intro a HE
            refine g_offu HE rfl rfl rfl ?_; clear HE; intro a HE
            refine g_offu HE rfl rfl rfl ?_; clear HE; intro a HE
            refine g_off HE rfl rfl rfl hb27 ?_; clear HE; intro a HE
            refine o_pick_t HE rfl rfl hb27 rfl ?_; clear HE; intro a HE
            exact ⟨rfl, HE.cut ⟨by rw [hb27]; rfl, rfl, rfl, rfl, rfl, rfl, rfl, rfl, rfl, rfl, rfl, rfl, rfl, rfl, rfl, rfl, rfl, rfl, rfl, trivial⟩⟩
          · skip
            have hk29 := hb27; try simp only [Bool.not_eq_true', Bool.not_eq_false', Bool.and_eq_true, Bool.or_eq_true, Bool.or_eq_false_iff, decide_eq_true_eq, decide_eq_false_iff_not, beq_iff_eq, beq_eq_false_iff_ne, ne_eq] at hk29
            refine op_on HE rfl rfl hb27 ?_
            refine o_move HE rfl rfl ?_; clear HE; intro a HE
            refine op_on HE rfl rfl hb27 ?_
            refine o_eqI HE rfl rfl rfl ?_; clear HE; intro a HE
            refine op_on HE rfl rfl hb27 ?_
            refine o_move HE rfl rfl ?_; clear HE; intro a HE
            refine cutL 4 (fun a' w' => w = w' ∧ Env a' 41 [] [(39, .bool ((decide (((parseV (printV x)).2) = 0)) && (decide (((parseV (printV x)).1.k) = x.k) && (decide (((parseV (printV x)).1.n) = x.n) && (((parseV (printV x)).1.s) == x.s && true))))), (0, .agg #[.int .i64 x.k, .int .i64 x.n, str x.s]), (1, .pointer (some ⟨B1, 0, none⟩)), (2, .bool false), (3, str (printV x)), (4, .pointer (some ⟨B4, 0, none⟩)), (6, .bool true), (7, .bool (!true)), (8, .agg #[.int .i64 x.k, .int .i64 x.n, str x.s]), (9, .slice (some ⟨B9, 0, none⟩) 1 1), (10, .bool gb13), (11, .agg #[.int .i64 x.k, .int .i64 x.n, str x.s]), (12, str (printV x)), (23, .bool ((!((rightV x) == (rightV x))) || (!((printV x) == (printV x))))), (24, .tuple #[.agg #[.int .i64 ((parseV (printV x)).1.k), .int .i64 ((parseV (printV x)).1.n), str ((parseV (printV x)).1.s)], .int .i64 ((parseV (printV x)).2)]), (25, str (printV x)), (26, .tuple #[.agg #[.int .i64 ((parseV (printV x)).1.k), .int .i64 ((parseV (printV x)).1.n), str ((parseV (printV x)).1.s)], .int .i64 ((parseV (printV x)).2)]), (27, .agg #[.int .i64 ((parseV (printV x)).1.k), .int .i64 ((parseV (printV x)).1.n), str ((parseV (printV x)).1.s)]), (28, .int .i64 ((parseV (printV x)).2)), (32, .bool (!(rightV x)))]) ?_ ?_
            · refine (Bool.eq_false_or_eq_true (decide (((parseV (printV x)).2) = 0))).elim (fun hb30 => ?_) (fun hb30 => ?_)
              · skip
                have hk31 := hb30; try simp only [Bool.not_eq_true', Bool.not_eq_false', Bool.and_eq_true, Bool.or_eq_true, Bool.or_eq_false_iff, decide_eq_true_eq, decide_eq_false_iff_not, beq_iff_eq, beq_eq_false_iff_ne, ne_eq] at hk31
                refine op_on HE rfl rfl hb30 ?_
                refine o_ldA HE rfl HS rfl T.a25 (.here .here) rfl ?_; clear HE; intro a HE
                refine op_on HE rfl rfl hb30 ?_
                refine o_ldA HE rfl HS rfl T.a25 (.there (.here .here)) rfl ?_; clear HE; intro a HE
                refine op_on HE rfl rfl hb30 ?_
                refine o_eqA (b := decide (((parseV (printV x)).1.k) = x.k) && (decide (((parseV (printV x)).1.n) = x.n) && (((parseV (printV x)).1.s) == x.s && true))) HE rfl rfl rfl T.q25 rfl rfl ?_; clear HE; intro a HE
                refine op_on HE rfl rfl hb27 ?_
                refine o_pick_t HE rfl rfl hb30 rfl ?_; clear HE; intro a HE
                exact ⟨rfl, HE.cut ⟨by rw [hb30]; rfl, rfl, rfl, rfl, rfl, rfl, rfl, rfl, rfl, rfl, rfl, rfl, rfl, rfl, rfl, rfl, rfl, rfl, rfl, rfl, trivial⟩⟩
              · skip
                have hk32 := hb30; try simp only [Bool.not_eq_true', Bool.not_eq_false', Bool.and_eq_true, Bool.or_eq_true, Bool.or_eq_false_iff, decide_eq_true_eq, decide_eq_false_iff_not, beq_iff_eq, beq_eq_false_iff_ne, ne_eq] at hk32
                refine g_off HE rfl rfl rfl hb30 ?_; clear HE; intro a HE
                refine g_off HE rfl rfl rfl hb30 ?_; clear HE; intro a HE
                refine g_off HE rfl rfl rfl hb30 ?_; clear HE; intro a HE
                refine op_on HE rfl rfl hb27 ?_
                refine o_pick_f HE rfl rfl hb30 rfl ?_; clear HE; intro a HE
                exact ⟨rfl, HE.cut ⟨by rw [hb30]; rfl, rfl, rfl, rfl, rfl, rfl, rfl, rfl, rfl, rfl, rfl, rfl, rfl, rfl, rfl, rfl, rfl, rfl, rfl, rfl, trivial⟩⟩
            clear HE; rintro a _ ⟨rfl, HE⟩
            refine o_pick_f HE rfl rfl hb27 rfl ?_; clear HE; intro a HE
            exact ⟨rfl, HE.cut ⟨by rw [hb27]; rfl, rfl, rfl, rfl, rfl, rfl, rfl, rfl, rfl, rfl, rfl, rfl, rfl, rfl, rfl, rfl, rfl, rfl, rfl, trivial⟩⟩
        clear HE; rintro a _ ⟨rfl, HE⟩
        refine o_assign HE rfl rfl ?_; clear HE; intro a HE
        refine hK _ _ ?_; clear hK K
        refine wp_ret ?_
        show Q .ret _ _
        refine ret hQ HE rfl (HE.res rfl .nil) ⟨_, _, HS.stop (List.nil_sublist _), rfl, ?_⟩
        show _ = _
        simp only [packed, Value.bool.injEq]
        cases hr : rightV x with
        | false => rfl
        | true => rw [parse_print hv.n hr]; simp

/-! `incognito/incognitolaw07.ValueParses` -/
set_option maxRecDepth 100000 in
set_option maxHeartbeats 4000000 in
theorem law_ValueParses (s : Bs) (w0 : World) (G : Heap) (hG : Sub G w0) (hg0 : CellsAt G 0 0 [.int .i64 3, .int .i64 1, str []]) (hg1 : CellsAt G 1 0 [.int .i64 3, .int .i64 0, str []]) (hT : TabG G 3 .u64 Lib.pow10Tab) (hl : s.length ≤ 9223372036854775807):
    Calls Tryd.prog 6 #[str s] w0 (Ret w0 G (fun v _ => v = .bool true)) := by
  refine enter Tryd.func6 rfl Tryd.ntmps6 rfl ?_
  intro Q hQ a HE
  have HS := St.start0 hG
  refine wp_seq_k (fun K hK => ?_); refine wp_region_lit ?_
  refine o_assign HE rfl rfl ?_; clear HE; intro a HE
  refine hK _ _ ?_; clear hK K
  refine wp_seq_k (fun K3 hK2 => ?_)
  refine wp_seq_k (fun K hK => ?_); refine wp_region_lit ?_
  refine o_callP HE rfl HS rfl rfl T.g10 (c_wakes7 _ _ HS.sub hg0 hg1) ?_
  clear HE HS; rintro _ w a HS rfl HE
  refine o_not HE rfl rfl ?_; clear HE; intro a HE
  refine hK _ _ ?_; clear hK K
  refine cond HE rfl (fun h5 => ?_) (fun h5 => ?_)
  · have h5r := h5; try simp only [Bool.not_eq_true', Bool.not_eq_false', Bool.and_eq_true, Bool.or_eq_true, Bool.or_eq_false_iff, Bool.and_eq_false_iff, decide_eq_true_eq, decide_eq_false_iff_not, beq_iff_eq, beq_eq_false_iff_ne, ne_eq] at h5
    refine wp_seq_k (fun K hK => ?_); refine wp_region_lit ?_
    refine o_assign HE rfl rfl ?_; clear HE; intro a HE
    refine hK _ _ ?_; clear hK K
    refine wp_ret ?_
    show Q .ret _ _
    refine ret hQ HE rfl (HE.res rfl .nil) ⟨_, _, HS.stop (List.nil_sublist _), rfl, ?_⟩
    exact absurd h5r (by decide)
  · have h5r := h5; try simp only [Bool.not_eq_true', Bool.not_eq_false', Bool.and_eq_true, Bool.or_eq_true, Bool.or_eq_false_iff, Bool.and_eq_false_iff, decide_eq_true_eq, decide_eq_false_iff_not, beq_iff_eq, beq_eq_false_iff_ne, ne_eq] at h5
    refine wp_skip ?_
    refine hK2 _ _ ?_; clear hK2
    refine wp_seq_k (fun K8 hK7 => ?_)
    refine wp_seq_k (fun K hK => ?_); refine wp_region_lit ?_
    refine o_move HE rfl rfl ?_; clear HE; intro a HE
    refine o_lenS HE rfl rfl Tryd.underlying9 ?_; clear HE; intro a HE
    refine o_gtr HE rfl rfl rfl ?_; clear HE; intro a HE
    refine hK _ _ ?_; clear hK K
    refine cond HE rfl (fun h10 => ?_) (fun h10 => ?_)
    · have h10r := h10; try simp only [Bool.not_eq_true', Bool.not_eq_false', Bool.and_eq_true, Bool.or_eq_true, Bool.or_eq_false_iff, Bool.and_eq_false_iff, decide_eq_true_eq, decide_eq_false_iff_not, beq_iff_eq, beq_eq_false_iff_ne, ne_eq] at h10
      refine wp_seq_k (fun K hK => ?_); refine wp_region_lit ?_
      refine o_assign HE rfl rfl ?_; clear HE; intro a HE
      refine hK _ _ ?_; clear hK K
      refine wp_ret ?_
      show Q .ret _ _
      refine ret hQ HE rfl (HE.res rfl .nil) ⟨_, _, HS.stop (List.nil_sublist _), rfl, ?_⟩
      show _ = _
      rfl
    · have h10r := h10; try simp only [Bool.not_eq_true', Bool.not_eq_false', Bool.and_eq_true, Bool.or_eq_true, Bool.or_eq_false_iff, Bool.and_eq_false_iff, decide_eq_true_eq, decide_eq_false_iff_not, beq_iff_eq, beq_eq_false_iff_ne, ne_eq] at h10
      refine wp_skip ?_
      refine hK7 _ _ ?_; clear hK7
      refine wp_seq_k (fun K hK => ?_); refine wp_region_lit ?_
      refine o_move HE rfl rfl ?_; clear HE; intro a HE
      refine o_callP HE rfl HS rfl rfl T.g20 (c_parseV s _ _ HS.sub hg0 hg1 (by first | omega | (simp; done) | (simp; omega))) ?_
      clear HE HS; rintro _ w a HS rfl HE
      refine o_move HE rfl rfl ?_; clear HE; intro a HE
      refine o_extract HE rfl rfl rfl ?_; clear HE; intro a HE
      refine o_extract HE rfl rfl rfl ?_; clear HE; intro a HE
      refine o_allocL [(0, _), (1, _), (2, _)] HE rfl HS T.z25 ⟨rfl, rfl, rfl, trivial⟩ ?_; clear HE HS; intro B3 w a HS HE
      refine o_stA HE HS rfl rfl rfl T.a25 (.here .here) rfl ?_; clear HS; intro w HS
      refine o_assign HE rfl rfl ?_; clear HE; intro a HE
      refine hK _ _ ?_; clear hK K
      refine wp_seq_k (fun K hK => ?_); refine wp_region_lit ?_
      refine o_move HE rfl rfl ?_; clear HE; intro a HE
      refine o_callP HE rfl HS rfl rfl T.g21 (c_ParseV s _ _ HS.sub (by first | omega | (simp; done) | (simp; omega))) ?_
      clear HE HS; rintro _ w a HS rfl HE
      refine o_move HE rfl rfl ?_; clear HE; intro a HE
      refine o_extract HE rfl rfl rfl ?_; clear HE; intro a HE
      refine o_extract HE rfl rfl rfl ?_; clear HE; intro a HE
      refine o_allocL [(0, _), (1, _), (2, _)] HE rfl HS T.z25 ⟨rfl, rfl, rfl, trivial⟩ ?_; clear HE HS; intro B5 w a HS HE
      refine o_stA HE HS rfl rfl rfl T.a25 (.here .here) rfl ?_; clear HS; intro w HS
      refine o_assign HE rfl rfl ?_; clear HE; intro a HE
      refine hK _ _ ?_; clear hK K
      refine wp_seq_k (fun K hK => ?_); refine wp_region_lit ?_
      refine o_ldA HE rfl HS rfl T.a25 (.there (.here .here)) rfl ?_; clear HE; intro a HE
      refine o_ldA HE rfl HS rfl T.a25 (.here .here) rfl ?_; clear HE; intro a HE
      refine o_eqA (b := decide (((parseV s).1.k) = ((parseV s).1.k)) && (decide (((parseV s).1.n) = ((parseV s).1.n)) && (((parseV s).1.s) == ((parseV s).1.s) && true))) HE rfl rfl rfl T.q25 rfl rfl ?_; clear HE; intro a HE
      refine o_move HE rfl rfl ?_; clear HE; intro a HE
      refine cutL 4 (fun a' w' => w = w' ∧ Env a' 44 [] [(29, .bool ((decide (((parseV s).1.k) = ((parseV s).1.k)) && (decide (((parseV s).1.n) = ((parseV s).1.n)) && (((parseV s).1.s) == ((parseV s).1.s) && true))) && (decide (((parseV s).2) = ((parseV s).2))))), (0, str s), (2, .bool false), (3, .pointer (some ⟨B3, 0, none⟩)), (4, .int .i64 ((parseV s).2)), (5, .pointer (some ⟨B5, 0, none⟩)), (7, .bool true), (8, .bool (!true)), (9, str s), (10, .int .i64 (s.length : Int)), (11, .bool (decide (200 < (s.length : Int)))), (12, .tuple #[.agg #[.int .i64 ((parseV s).1.k), .int .i64 ((parseV s).1.n), str ((parseV s).1.s)], .int .i64 ((parseV s).2)]), (13, str s), (14, .tuple #[.agg #[.int .i64 ((parseV s).1.k), .int .i64 ((parseV s).1.n), str ((parseV s).1.s)], .int .i64 ((parseV s).2)]), (15, .agg #[.int .i64 ((parseV s).1.k), .int .i64 ((parseV s).1.n), str ((parseV s).1.s)]), (16, .int .i64 ((parseV s).2)), (17, .tuple #[.agg #[.int .i64 ((parseV s).1.k), .int .i64 ((parseV s).1.n), str ((parseV s).1.s)], .int .i64 ((parseV s).2)]), (18, str s), (19, .tuple #[.agg #[.int .i64 ((parseV s).1.k), .int .i64 ((parseV s).1.n), str ((parseV s).1.s)], .int .i64 ((parseV s).2)]), (20, .agg #[.int .i64 ((parseV s).1.k), .int .i64 ((parseV s).1.n), str ((parseV s).1.s)]), (21, .int .i64 ((parseV s).2))]) ?_ ?_
      · refine (Bool.eq_false_or_eq_true (decide (((parseV s).1.k) = ((parseV s).1.k)) && (decide (((parseV s).1.n) = ((parseV s).1.n)) && (((parseV s).1.s) == ((parseV s).1.s) && true)))).elim (fun hb14 => ?_) (fun hb14 => ?_)
        · skip
          have hk15 := hb14; try simp only [Bool.not_eq_true', Bool.not_eq_false', Bool.and_eq_true, Bool.or_eq_true, Bool.or_eq_false_iff, decide_eq_true_eq, decide_eq_false_iff_not, beq_iff_eq, beq_eq_false_iff_ne, ne_eq] at hk15
          refine op_on HE rfl rfl hb14 ?_
          refine o_move HE rfl rfl ?_; clear HE; intro a HE
          refine op_on HE rfl rfl hb14 ?_
          refine o_move HE rfl rfl ?_; clear HE; intro a HE
          refine op_on HE rfl rfl hb14 ?_
          refine o_eqI HE rfl rfl rfl ?_; clear HE; intro a HE
          refine o_pick_t HE rfl rfl hb14 rfl ?_; clear HE; intro a HE
          exact ⟨rfl, HE.cut ⟨by rw [hb14]; rfl, rfl, rfl, rfl, rfl, rfl, rfl, rfl, rfl, rfl, rfl, rfl, rfl, rfl, rfl, rfl, rfl, rfl, rfl, rfl, rfl, trivial⟩⟩
        · skip
          have hk16 := hb14; try simp only [Bool.not_eq_true', Bool.not_eq_false', Bool.and_eq_true, Bool.or_eq_true, Bool.or_eq_false_iff, decide_eq_true_eq, decide_eq_false_iff_not, beq_iff_eq, beq_eq_false_iff_ne, ne_eq] at hk16
          refine g_off HE rfl rfl rfl hb14 ?_; clear HE; intro a HE
          refine g_off HE rfl rfl rfl hb14 ?_; clear HE; intro a HE
          refine g_off HE rfl rfl rfl hb14 ?_; clear HE; intro a HE
          refine o_pick_f HE rfl rfl hb14 rfl ?_; clear HE; intro a HE
          exact ⟨rfl, HE.cut ⟨by rw [hb14]; rfl, rfl, rfl, rfl, rfl, rfl, rfl, rfl, rfl, rfl, rfl, rfl, rfl, rfl, rfl, rfl, rfl, rfl, rfl, rfl, rfl, trivial⟩⟩
      clear HE; rintro a _ ⟨rfl, HE⟩
      refine o_move HE rfl rfl ?_; clear HE; intro a HE
      obtain ⟨M0, hM0, HS⟩ : ∃ M0, M0 = _ ∧ St w0 G [] G _ M0 := ⟨_, rfl, HS⟩
      refine cutL 13 (fun a' w' => St w0 G [] G w' M0 ∧ Env a' 44 [] [(43, .bool (((decide (((parseV s).1.k) = ((parseV s).1.k)) && (decide (((parseV s).1.n) = ((parseV s).1.n)) && (((parseV s).1.s) == ((parseV s).1.s) && true))) && (decide (((parseV s).2) = ((parseV s).2)))) && ((!decide (((parseV s).2) = 0)) || ((rightV (parseV s).1) && ((printV (parseV s).1) == s))))), (0, str s), (2, .bool false), (3, .pointer (some ⟨B3, 0, none⟩)), (5, .pointer (some ⟨B5, 0, none⟩)), (7, .bool true), (8, .bool (!true)), (9, str s), (10, .int .i64 (s.length : Int)), (11, .bool (decide (200 < (s.length : Int)))), (12, .tuple #[.agg #[.int .i64 ((parseV s).1.k), .int .i64 ((parseV s).1.n), str ((parseV s).1.s)], .int .i64 ((parseV s).2)]), (13, str s), (14, .tuple #[.agg #[.int .i64 ((parseV s).1.k), .int .i64 ((parseV s).1.n), str ((parseV s).1.s)], .int .i64 ((parseV s).2)]), (15, .agg #[.int .i64 ((parseV s).1.k), .int .i64 ((parseV s).1.n), str ((parseV s).1.s)]), (16, .int .i64 ((parseV s).2)), (17, .tuple #[.agg #[.int .i64 ((parseV s).1.k), .int .i64 ((parseV s).1.n), str ((parseV s).1.s)], .int .i64 ((parseV s).2)]), (18, str s), (19, .tuple #[.agg #[.int .i64 ((parseV s).1.k), .int .i64 ((parseV s).1.n), str ((parseV s).1.s)], .int .i64 ((parseV s).2)]), (20, .agg #[.int .i64 ((parseV s).1.k), .int .i64 ((parseV s).1.n), str ((parseV s).1.s)]), (21, .int .i64 ((parseV s).2))]) ?_ ?_
      · refine (Bool.eq_false_or_eq_true ((decide (((parseV s).1.k) = ((parseV s).1.k)) && (decide (((parseV s).1.n) = ((parseV s).1.n)) && (((parseV s).1.s) == ((parseV s).1.s) && true))) && (decide (((parseV s).2) = ((parseV s).2))))).elim (fun hb17 => ?_) (fun hb17 => ?_)
        · subst hM0
          have hk18 := hb17; try simp only [Bool.not_eq_true', Bool.not_eq_false', Bool.and_eq_true, Bool.or_eq_true, Bool.or_eq_false_iff, decide_eq_true_eq, decide_eq_false_iff_not, beq_iff_eq, beq_eq_false_iff_ne, ne_eq] at hk18
          refine op_on HE rfl rfl hb17 ?_
          refine o_move HE rfl rfl ?_; clear HE; intro a HE
          refine op_on HE rfl rfl hb17 ?_
          refine o_neI HE rfl rfl rfl ?_; clear HE; intro a HE
          refine op_on HE rfl rfl hb17 ?_
          refine o_move HE rfl rfl ?_; clear HE; intro a HE
          obtain ⟨M0, hM0, HS⟩ : ∃ M0, M0 = _ ∧ St w0 G [] G _ M0 := ⟨_, rfl, HS⟩
          refine cutL 9 (fun a' w' => St w0 G [] G w' M0 ∧ Env a' 44 [] [(42, .bool ((!decide (((parseV s).2) = 0)) || ((rightV (parseV s).1) && ((printV (parseV s).1) == s)))), (0, str s), (2, .bool false), (3, .pointer (some ⟨B3, 0, none⟩)), (5, .pointer (some ⟨B5, 0, none⟩)), (7, .bool true), (8, .bool (!true)), (9, str s), (10, .int .i64 (s.length : Int)), (11, .bool (decide (200 < (s.length : Int)))), (12, .tuple #[.agg #[.int .i64 ((parseV s).1.k), .int .i64 ((parseV s).1.n), str ((parseV s).1.s)], .int .i64 ((parseV s).2)]), (13, str s), (14, .tuple #[.agg #[.int .i64 ((parseV s).1.k), .int .i64 ((parseV s).1.n), str ((parseV s).1.s)], .int .i64 ((parseV s).2)]), (15, .agg #[.int .i64 ((parseV s).1.k), .int .i64 ((parseV s).1.n), str ((parseV s).1.s)]), (16, .int .i64 ((parseV s).2)), (17, .tuple #[.agg #[.int .i64 ((parseV s).1.k), .int .i64 ((parseV s).1.n), str ((parseV s).1.s)], .int .i64 ((parseV s).2)]), (18, str s), (19, .tuple #[.agg #[.int .i64 ((parseV s).1.k), .int .i64 ((parseV s).1.n), str ((parseV s).1.s)], .int .i64 ((parseV s).2)]), (20, .agg #[.int .i64 ((parseV s).1.k), .int .i64 ((parseV s).1.n), str ((parseV s).1.s)]), (21, .int .i64 ((parseV s).2)), (30, .bool ((decide (((parseV s).1.k) = ((parseV s).1.k)) && (decide (((parseV s).1.n) = ((parseV s).1.n)) && (((parseV s).1.s) == ((parseV s).1.s) && true))) && (decide (((parseV s).2) = ((parseV s).2)))))]) ?_ ?_
          · refine (Bool.eq_false_or_eq_true (!decide (((parseV s).2) = 0))).elim (fun hb19 => ?_) (fun hb19 => ?_)
            · subst hM0
              have hk20 := hb19; try simp only [Bool.not_eq_true', Bool.not_eq_false', Bool.and_eq_true, Bool.or_eq_true, Bool.or_eq_false_iff, decide_eq_true_eq, decide_eq_false_iff_not, beq_iff_eq, beq_eq_false_iff_ne, ne_eq] at hk20
              refine g_off HE rfl rfl rfl hb19 ?_; clear HE; intro a HE
              refine g_off HE rfl rfl rfl hb19 ?_; clear HE; intro a HE
              refine g_off HE rfl rfl rfl hb19 ?_; clear HE; intro a HE
              refine g_offu HE rfl rfl rfl ?_; clear HE; intro a HE
              refine g_offu HE rfl rfl rfl ?_; clear HE; intro a HE
              refine g_offu HE rfl rfl rfl ?_; clear HE; intro a HE
              refine g_offu HE rfl rfl rfl ?_; clear HE; intro a HE
              refine g_off HE rfl rfl rfl hb19 ?_; clear HE; intro a HE
              refine op_on HE rfl rfl hb17 ?_
              refine o_pick_t HE rfl rfl hb19 rfl ?_; clear HE; intro a HE
              exact ⟨HS, HE.cut ⟨by rw [hb19]; rfl, rfl, rfl, rfl, rfl, rfl, rfl, rfl, rfl, rfl, rfl, rfl, rfl, rfl, rfl, rfl, rfl, rfl, rfl, rfl, rfl, trivial⟩⟩
            · subst hM0
              have hk21 := hb19; try simp only [Bool.not_eq_true', Bool.not_eq_false', Bool.and_eq_true, Bool.or_eq_true, Bool.or_eq_false_iff, decide_eq_true_eq, decide_eq_false_iff_not, beq_iff_eq, beq_eq_false_iff_ne, ne_eq] at hk21
              refine op_on HE rfl rfl hb19 ?_
              refine o_ldA HE rfl HS rfl T.a25 (.there (.here .here)) rfl ?_; clear HE; intro a HE
              refine op_on HE rfl rfl hb19 ?_
              have hv := parse_wf hl
              refine o_callP HE rfl HS rfl rfl T.g17 (c_right7 (parseV s).1 _ _ HS.sub hg0 hg1 (by first | assumption | exact hv | (constructor <;> first | assumption | (simp only [I64]; omega) | (simp; omega)))) ?_
              clear HE HS; rintro _ w a HS rfl HE
              refine op_on HE rfl rfl hb19 ?_
              refine o_move HE rfl rfl ?_; clear HE; intro a HE
              obtain ⟨M0, hM0, HS⟩ : ∃ M0, M0 = _ ∧ St w0 G [] G _ M0 := ⟨_, rfl, HS⟩
              refine cutL 5 (fun a' w' => St w0 G [] G w' M0 ∧ Env a' 44 [] [(41, .bool ((rightV (parseV s).1) && ((printV (parseV s).1) == s))), (0, str s), (2, .bool false), (3, .pointer (some ⟨B3, 0, none⟩)), (5, .pointer (some ⟨B5, 0, none⟩)), (7, .bool true), (8, .bool (!true)), (9, str s), (10, .int .i64 (s.length : Int)), (11, .bool (decide (200 < (s.length : Int)))), (12, .tuple #[.agg #[.int .i64 ((parseV s).1.k), .int .i64 ((parseV s).1.n), str ((parseV s).1.s)], .int .i64 ((parseV s).2)]), (13, str s), (14, .tuple #[.agg #[.int .i64 ((parseV s).1.k), .int .i64 ((parseV s).1.n), str ((parseV s).1.s)], .int .i64 ((parseV s).2)]), (15, .agg #[.int .i64 ((parseV s).1.k), .int .i64 ((parseV s).1.n), str ((parseV s).1.s)]), (16, .int .i64 ((parseV s).2)), (17, .tuple #[.agg #[.int .i64 ((parseV s).1.k), .int .i64 ((parseV s).1.n), str ((parseV s).1.s)], .int .i64 ((parseV s).2)]), (18, str s), (19, .tuple #[.agg #[.int .i64 ((parseV s).1.k), .int .i64 ((parseV s).1.n), str ((parseV s).1.s)], .int .i64 ((parseV s).2)]), (20, .agg #[.int .i64 ((parseV s).1.k), .int .i64 ((parseV s).1.n), str ((parseV s).1.s)]), (21, .int .i64 ((parseV s).2)), (30, .bool ((decide (((parseV s).1.k) = ((parseV s).1.k)) && (decide (((parseV s).1.n) = ((parseV s).1.n)) && (((parseV s).1.s) == ((parseV s).1.s) && true))) && (decide (((parseV s).2) = ((parseV s).2))))), (33, .bool (!decide (((parseV s).2) = 0)))]) ?_ ?_
              · refine (Bool.eq_false_or_eq_true (rightV (parseV s).1)).elim (fun hb22 => ?_) (fun hb22 => ?_)
                · subst hM0
                  have hk23 := hb22; try simp only [Bool.not_eq_true', Bool.not_eq_false', Bool.and_eq_true, Bool.or_eq_true, Bool.or_eq_false_iff, decide_eq_true_eq, decide_eq_false_iff_not, beq_iff_eq, beq_eq_false_iff_ne, ne_eq] at hk23
                  refine op_on HE rfl rfl hb22 ?_
                  refine o_ldA HE rfl HS rfl T.a25 (.there (.here .here)) rfl ?_; clear HE; intro a HE
                  refine op_on HE rfl rfl hb22 ?_
                  have hv := parse_wf hl
                  refine o_callP HE rfl HS rfl rfl T.g16 (c_print7 (parseV s).1 _ _ HS.sub hg0 hg1 hT (by first | assumption | exact hv | (constructor <;> first | assumption | (simp only [I64]; omega) | (simp; omega)))) ?_
                  clear HE HS; rintro _ w a HS rfl HE
                  refine op_on HE rfl rfl hb22 ?_
                  refine o_move HE rfl rfl ?_; clear HE; intro a HE
                  refine op_on HE rfl rfl hb22 ?_
                  refine o_eqS HE rfl rfl rfl ?_; clear HE; intro a HE
                  refine op_on HE rfl rfl hb19 ?_
                  refine o_pick_t HE rfl rfl hb22 rfl ?_; clear HE; intro a HE
                  exact ⟨HS, HE.cut ⟨by rw [hb22]; rfl, rfl, rfl, rfl, rfl, rfl, rfl, rfl, rfl, rfl, rfl, rfl, rfl, rfl, rfl, rfl, rfl, rfl, rfl, rfl, rfl, rfl, trivial⟩⟩
                · subst hM0
                  have hk24 := hb22; try simp only [Bool.not_eq_true', Bool.not_eq_false', Bool.and_eq_true, Bool.or_eq_true, Bool.or_eq_false_iff, decide_eq_true_eq, decide_eq_false_iff_not, beq_iff_eq, beq_eq_false_iff_ne, ne_eq] at hk24
                  refine g_off HE rfl rfl rfl hb22 ?_; clear HE; intro a HE
                  refine g_off HE rfl rfl rfl hb22 ?_; clear HE; intro a HE
                  refine g_off HE rfl rfl rfl hb22 ?_; clear HE; intro a HE
                  refine g_off HE rfl rfl rfl hb22 ?_; clear HE; intro a HE
                  refine op_on HE rfl rfl hb19 ?_
                  refine o_pick_f HE rfl rfl hb22 rfl ?_; clear HE; intro a HE
                  exact ⟨HS, HE.cut ⟨by rw [hb22]; rfl, rfl, rfl, rfl, rfl, rfl, rfl, rfl, rfl, rfl, rfl, rfl, rfl, rfl, rfl, rfl, rfl, rfl, rfl, rfl, rfl, rfl, trivial⟩⟩
              clear HE HS; rintro a w ⟨HS, HE⟩; subst hM0
              refine op_on HE rfl rfl hb17 ?_
              refine o_pick_f HE rfl rfl hb19 rfl ?_; clear HE; intro a HE
              exact ⟨HS, HE.cut ⟨by rw [hb19]; rfl, rfl, rfl, rfl, rfl, rfl, rfl, rfl, rfl, rfl, rfl, rfl, rfl, rfl, rfl, rfl, rfl, rfl, rfl, rfl, rfl, trivial⟩⟩
          clear HE HS; rintro a w ⟨HS, HE⟩; subst hM0
          refine o_pick_t HE rfl rfl hb17 rfl ?_; clear HE; intro a HE
          exact ⟨HS, HE.cut ⟨by rw [hb17]; rfl, rfl, rfl, rfl, rfl, rfl, rfl, rfl, rfl, rfl, rfl, rfl, rfl, rfl, rfl, rfl, rfl, rfl, rfl, rfl, trivial⟩⟩
        · subst hM0
          have hk25 := hb17; try simp only [Bool.not_eq_true', Bool.not_eq_false', Bool.and_eq_true, Bool.or_eq_true, Bool.or_eq_false_iff, decide_eq_true_eq, decide_eq_false_iff_not, beq_iff_eq, beq_eq_false_iff_ne, ne_eq] at hk25
          refine g_off HE rfl rfl rfl hb17 ?_; clear HE; intro a HE
          refine g_off HE rfl rfl rfl hb17 ?_; clear HE; intro a HE
          refine g_off HE rfl rfl rfl hb17 ?_; clear HE; intro a HE
          refine g_offu HE rfl rfl rfl ?_; clear HE; intro a HE
          refine g_offu HE rfl rfl rfl ?_; clear HE; intro a HE
          refine g_offu HE rfl rfl rfl ?_; clear HE; intro a HE
          refine g_offu HE rfl rfl rfl ?_; clear HE; intro a HE
          refine g_offu HE rfl rfl rfl ?_; clear HE; intro a HE
          refine g_offu HE rfl rfl rfl ?_; clear HE; intro a HE
          refine g_offu HE rfl rfl rfl ?_; clear HE; intro a HE
          refine g_offu HE rfl rfl rfl ?_; clear HE; intro a HE
          refine g_off HE rfl rfl rfl hb17 ?_; clear HE; intro a HE
          refine o_pick_f HE rfl rfl hb17 rfl ?_; clear HE; intro a HE
          exact ⟨HS, HE.cut ⟨by rw [hb17]; rfl, rfl, rfl, rfl, rfl, rfl, rfl, rfl, rfl, rfl, rfl, rfl, rfl, rfl, rfl, rfl, rfl, rfl, rfl, rfl, trivial⟩⟩
      clear HE HS; rintro a w ⟨HS, HE⟩; subst hM0
      refine o_assign HE rfl rfl ?_; clear HE; intro a HE
      refine hK _ _ ?_; clear hK K
      refine wp_ret ?_
      show Q .ret _ _
      refine ret hQ HE rfl (HE.res rfl .nil) ⟨_, _, HS.stop (List.nil_sublist _), rfl, ?_⟩
      show _ = _
      simp only [packed, Value.bool.injEq]
      by_cases he : (parseV s).2 = 0
      · have hq := print_parse he
        have e1 : (⟨(parseV s).1.k, (parseV s).1.n, (parseV s).1.s⟩ : Val) = (parseV s).1 := rfl
        simp [e1, hq.1, hq.2]
      · simp [he]

end Go.Proofs.YthhcgkcnebchhaaDoor.T3
